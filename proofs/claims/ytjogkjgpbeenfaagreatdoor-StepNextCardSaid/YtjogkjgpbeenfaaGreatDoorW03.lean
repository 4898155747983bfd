/- What the functions of rows compute (redressref03): in plain words. -/
import Derived.Test.YtjogkjgpbeenfaaGreatDoorW00
import Derived.Test.YtjogkjgpbeenfaaGreatDoorM2
import Derived.Lib.SlTrimSet
namespace Go.Proofs.YtjogkjgpbeenfaaGreatDoor.Sv
open Go Go.Sv Go.Rd
set_option linter.unusedVariables false
set_option linter.unusedSimpArgs false
theorem ref03_Arity_s [Dfr] (k : Int) : ref03_Arity k = some (arI k) := by
  rw [ref03_Arity_eq]
  by_cases h1 : k = 1; · subst h1; rfl
  by_cases h2 : k = 2; · subst h2; rfl
  by_cases h3 : k = 3; · subst h3; rfl
  by_cases h4 : k = 4; · subst h4; rfl
  by_cases h5 : k = 5; · subst h5; rfl
  by_cases h6 : k = 6; · subst h6; rfl
  by_cases h7 : k = 7; · subst h7; rfl
  by_cases h8 : k = 8; · subst h8; rfl
  by_cases h9 : k = 9; · subst h9; rfl
  by_cases h10 : k = 10; · subst h10; rfl
  by_cases h11 : k = 11; · subst h11; rfl
  by_cases h12 : k = 12; · subst h12; rfl
  by_cases h13 : k = 13; · subst h13; rfl
  by_cases h14 : k = 14; · subst h14; rfl
  have e : ∀ c : Int, ¬ k = c → (k == c) = false := fun c h => beq_false_of_ne h
  simp only [e _ h1, e _ h2, e _ h3, e _ h4, e _ h5, e _ h6, e _ h7, e _ h8, e _ h9, e _ h10, e _ h11, e _ h12, e _ h13, e _ h14, cond_false]
  simp [arI, ar, *]
/-- The place behind the tree at a place, and its depth. -/
def wk (l : List Nd) (at_ : Nat) : Int × Int := match P (l.drop at_) with | some (t, r) => (((at_ + t.size : Nat) : Int), (t.depth : Int)) | none => (-1, 0)
theorem ref03_Walk_s [Dfr] (l : List Nd) (hl : l.length ≤ 4611686018427387904) : ∀ (n i : Nat), l.length - i ≤ n → i ≤ l.length → ref03_Walk l (i : Int) = some (wk l i) := by
  intro n
  induction n with
  | zero =>
    intro i hn hi
    have h1 : l.drop i = [] := List.drop_eq_nil_of_le (by omega)
    have h2 : decide ((i : Int) ≥ (l.length : Int)) = true := decide_eq_true (by omega)
    rw [ref03_Walk_eq]
    simp only [h2, cond_true, wk, h1, P_nil]
  | succ n ih =>
    intro i hn hi
    cases hd : l.drop i with
    | nil =>
      have h2 : decide ((i : Int) ≥ (l.length : Int)) = true := decide_eq_true (by have := (drop_nil hd).1; omega)
      rw [ref03_Walk_eq]
      simp only [h2, cond_true, wk, hd, P_nil]
    | cons x r =>
      obtain ⟨h1, h2, h3, h4, h5, h6⟩ := drop_cons hd
      have h7 : decide ((i : Int) ≥ (l.length : Int)) = false := decide_eq_false (by omega)
      have hs : w64 ((i : Int) + 1) = ((i + 1 : Nat) : Int) := w_succ (by omega)
      have hk := ih (i + 1) (by omega) (by omega)
      have hP := P_cons x r
      rw [← hd] at hP
      rw [ref03_Walk_eq]
      simp only [h7, cond_false, h3, cond_true, h4, ref03_Arity_s, Option.bind_some, hs]
      rw [ref03_Walk_l0_eq]
      simp only [h3, cond_true, h4, ref03_Arity_s, Option.bind_some]
      unfold wk
      rw [hP]
      cases ha : ar x.1 with
      | none => simp only [arI, ha]; rfl
      | some m =>
        have hm := ar_le ha
        have e1 : arI x.1 = (m : Int) := by simp [arI, ha]
        have e2 : decide ((m : Int) < 0) = false := decide_eq_false (by omega)
        simp only [e1, e2, cond_false]
        rcases m with _ | _ | _ | m
        · rfl
        · simp only [show decide ((0 : Int) < ((0 + 1 : Nat) : Int)) = true from rfl, cond_true, hk, Option.bind_some]
          unfold wk
          rw [h5]
          cases hp : P r with
          | none => rfl
          | some q =>
            obtain ⟨a, l1⟩ := q
            have hda := a.depth_pos
            have g1 : decide (((i + 1 + a.size : Nat) : Int) < 0) = false := decide_eq_false (by omega)
            have g2 : decide ((a.depth : Int) > 0) = true := decide_eq_true (by omega)
            simp only [g1, g2, cond_true, cond_false]
            rw [ref03_Walk_l0_eq]
            have g3 : decide (w64 (0 + 1) < ((0 + 1 : Nat) : Int)) = false := rfl
            have hds := a.depth_le
            have hsz := (P_some hp).2
            have hln := congrArg List.length hsz
            rw [List.length_append, T.len_row] at hln
            simp only [h3, cond_true, h4, ref03_Arity_s, Option.bind_some, e1, g3, cond_false, T.size, T.depth]
            simp only [w_succ (show a.depth < 9223372036854775807 by omega), Nat.beq_refl, cond_true]
            congr 3; omega
        · simp only [show decide ((0 : Int) < ((0 + 1 + 1 : Nat) : Int)) = true from rfl, cond_true, hk, Option.bind_some]
          unfold wk
          rw [h5]
          cases hp : P r with
          | none => rfl
          | some q =>
            obtain ⟨a, l1⟩ := q
            have hda := a.depth_pos
            have g1 : decide (((i + 1 + a.size : Nat) : Int) < 0) = false := decide_eq_false (by omega)
            have g2 : decide ((a.depth : Int) > 0) = true := decide_eq_true (by omega)
            have hsz := (P_some hp).2
            have hln := congrArg List.length hsz
            rw [List.length_append, T.len_row] at hln
            have hd2 : l.drop (i + 1 + a.size) = l1 := by rw [← List.drop_drop, h5, hsz, List.drop_append_of_le_length (by simp [T.len_row]), ← T.len_row, List.drop_length, List.nil_append]
            have hk2 := ih (i + 1 + a.size) (by omega) (by omega)
            have hds := a.depth_le
            simp only [g1, g2, cond_true, cond_false]
            rw [ref03_Walk_l0_eq]
            have g3 : decide (w64 (0 + 1) < ((0 + 1 + 1 : Nat) : Int)) = true := rfl
            simp only [h3, cond_true, h4, ref03_Arity_s, Option.bind_some, e1, g3, hk2]
            unfold wk
            rw [hd2]
            cases hp2 : P l1 with
            | none => rfl
            | some q2 =>
              obtain ⟨b, l2⟩ := q2
              have hdb := b.depth_pos
              have hdsb := b.depth_le
              have hsz2 := (P_some hp2).2
              have hln2 := congrArg List.length hsz2
              rw [List.length_append, T.len_row] at hln2
              have g4 : decide (((i + 1 + a.size + b.size : Nat) : Int) < 0) = false := decide_eq_false (by omega)
              simp only [g4, cond_false]
              have g5 : decide (w64 (w64 (0 + 1) + 1) < ((0 + 1 + 1 : Nat) : Int)) = false := rfl
              by_cases hc : a.depth < b.depth
              · have g6 : decide ((b.depth : Int) > (a.depth : Int)) = true := decide_eq_true (by omega)
                simp only [g6, cond_true]
                rw [ref03_Walk_l0_eq]
                simp only [h3, cond_true, h4, ref03_Arity_s, Option.bind_some, e1, g5, cond_false, T.size, T.depth, w_succ (show b.depth < 9223372036854775807 by omega), Nat.beq_refl]
                rw [show max a.depth b.depth = b.depth by omega]
                congr 3; omega
              · have g6 : decide ((b.depth : Int) > (a.depth : Int)) = false := decide_eq_false (by omega)
                simp only [g6, cond_false]
                rw [ref03_Walk_l0_eq]
                simp only [h3, cond_true, h4, ref03_Arity_s, Option.bind_some, e1, g5, cond_false, T.size, T.depth, w_succ (show a.depth < 9223372036854775807 by omega), Nat.beq_refl]
                rw [show max a.depth b.depth = a.depth by omega]
                congr 3; omega
        · omega
/-- How many nodes the first tree has; 0: there is none. -/
def sz (l : List Nd) : Nat := match P l with | some (t, _) => t.size | none => 0
def dep (l : List Nd) : Nat := match P l with | some (t, _) => t.depth | none => 0
theorem ref03_Size_s [Dfr] (l : List Nd) (hl : l.length ≤ 4611686018427387904) : ref03_Size l = some (sz l : Int) := by
  rw [ref03_Size_eq]
  have := ref03_Walk_s l hl l.length 0 (by omega) (by omega)
  rw [show ((0 : Nat) : Int) = 0 from rfl] at this
  simp only [this, Option.bind_some, wk, List.drop_zero, sz]
  cases P l with
  | none => rfl
  | some q =>
    have g : decide (((q.1.size : Nat) : Int) < 0) = false := decide_eq_false (by omega)
    simp only [Nat.zero_add, g, cond_false]
theorem ref03_Depth_s [Dfr] (l : List Nd) (hl : l.length ≤ 4611686018427387904) : ref03_Depth l = some (dep l : Int) := by
  rw [ref03_Depth_eq]
  have := ref03_Walk_s l hl l.length 0 (by omega) (by omega)
  rw [show ((0 : Nat) : Int) = 0 from rfl] at this
  simp only [this, Option.bind_some, wk, List.drop_zero, dep]
  cases P l with
  | none => rfl
  | some q => rfl
theorem ref03_Same_l [Dfr] (xs ys : List Nd) (hx : xs.length ≤ 4611686018427387904) (hl : xs.length = ys.length) (b : Bool) : ∀ (r : List Nd) (i : Nat), xs.drop i = r → ref03_Same_l0 xs ys b (i : Int) = some (if r = ys.drop i then (0, b) else (1, false))
  | [], i, h => by
    rw [ref03_Same_l0_eq]
    obtain ⟨h1, h2⟩ := drop_nil h
    simp only [h2, cond_false, List.drop_eq_nil_of_le (show ys.length ≤ i by omega), if_true]
  | x :: r, i, h => by
    rw [ref03_Same_l0_eq]
    obtain ⟨h1, h2, h3, h4, h5, h6⟩ := drop_cons h
    cases hy : ys.drop i with
    | nil => have := List.drop_eq_nil_iff.1 hy; omega
    | cons y s =>
      obtain ⟨k1, k2, k3, k4, k5, k6⟩ := drop_cons hy
      simp only [h2, h3, h4, k3, k4, cond_true, nd_eq, w_succ (show i < 9223372036854775807 by omega), ref03_Same_l xs ys hx hl b r (i + 1) h5, k5]
      by_cases e : x = y
      · simp [e]
      · simp [e]
theorem ref03_Same_s [Dfr] (xs ys : List Nd) (hx : xs.length ≤ 4611686018427387904) : ref03_Same xs ys = some (decide (xs = ys)) := by
  rw [ref03_Same_eq]
  by_cases hl : xs.length = ys.length
  · have h1 : ((xs.length : Int) != (ys.length : Int)) = false := by simp [hl]
    have := ref03_Same_l xs ys hx hl false xs 0 rfl
    rw [show ((0 : Nat) : Int) = 0 from rfl, List.drop_zero] at this
    simp only [h1, cond_false, this, Option.bind_some]
    by_cases e : xs = ys <;> simp [e, Nat.beq]
  · have h1 : ((xs.length : Int) != (ys.length : Int)) = true := by simp; omega
    have h2 : xs ≠ ys := fun e => hl (by rw [e])
    simp [h1, h2]
theorem ref03_One_s [Dfr] (n : Nd) (a : List Nd) (h : a.length ≤ 1000000000) : ref03_One n a = some (n :: a) := by
  rw [ref03_One_eq, room (show (1 + a.length) * 32 ≤ 140737488355328 by omega)]
  rfl
theorem ref03_Two_s [Dfr] (n : Nd) (a b : List Nd) (ha : a.length ≤ 1000000000) (hb : b.length ≤ 1000000000) : ref03_Two n a b = some (n :: (a ++ b)) := by
  rw [ref03_Two_eq, ref03_One_s n a ha]
  simp only [Option.bind_some, List.length_cons]
  rw [room (show (a.length + 1 + b.length) * 32 ≤ 140737488355328 by omega)]
  rfl
/-! ### which nodes may be -/
theorem byteAt_drop [Dfr] {s : ByteArray} {i : Nat} {x : UInt8} {r : List UInt8} (h : s.data.toList.drop i = x :: r) : byteAt s (i : Int) = (x.toNat : Int) := by
  obtain ⟨h1, _, _, h4, _, _⟩ := drop_cons h
  unfold byteAt
  rw [Int.toNat_natCast]
  have : s.data.getD i 0 = x := by
    rw [Array.getD_eq_getD_getElem?, ← Array.getElem?_toList, List.getElem?_eq_getElem h1]
    have := ix_nat (xs := s.data.toList) (i := i) h1
    rw [h4] at this
    simpa using this.symm
  rw [this]
theorem size_toList [Dfr] (s : ByteArray) : s.data.toList.length = s.size := Array.length_toList
theorem ref03_Right_l0s [Dfr] (n : Nd) (b : Bool) (hs : n.2.1.size ≤ 9223372036854775807) : ∀ (r : List UInt8) (i : Nat), n.2.1.data.toList.drop i = r → ref03_Right_l0 n b (i : Int) = some (if r.all lowB then (0, (n, b)) else (1, (n, false)))
  | [], i, h => by
    obtain ⟨h1, h2⟩ := drop_nil h
    rw [size_toList] at h1 h2
    rw [ref03_Right_l0_eq]
    simp only [h2, cond_false, List.all_nil, if_true]
  | x :: r, i, h => by
    have hb := byteAt_drop h
    obtain ⟨h1, h2, h3, h4, h5, h6⟩ := drop_cons h
    rw [size_toList] at h1 h2 h3
    rw [ref03_Right_l0_eq]
    simp only [h2, h3, hb, cond_true, w_succ (show i < 9223372036854775807 by omega), ref03_Right_l0s n b hs r (i + 1) h5, List.all_cons]
    by_cases c1 : x.toNat < 97
    · rw [decide_eq_true (show (x.toNat : Int) < 97 by omega)]
      simp [lowB, show ¬ 97 ≤ x.toNat by omega]
    · rw [decide_eq_false (show ¬ (x.toNat : Int) < 97 by omega)]
      by_cases c2 : x.toNat > 122
      · rw [decide_eq_true (show (x.toNat : Int) > 122 by omega)]
        simp [lowB, show ¬ x.toNat ≤ 122 by omega]
      · rw [decide_eq_false (show ¬ (x.toNat : Int) > 122 by omega)]
        simp [lowB, show 97 ≤ x.toNat by omega, show x.toNat ≤ 122 by omega]
theorem ref03_word_s [Dfr] (s : ByteArray) : ref03_word s = some (decide (s ∈ wordsL)) := by
  rw [ref03_word_eq]
  simp only [str_eq, wordsL, List.mem_cons, List.not_mem_nil, or_false]
  by_cases h1 : s = ⟨#[115, 107, 105, 112]⟩
  · simp [h1]
  by_cases h2 : s = ⟨#[116, 104, 114, 111, 119]⟩
  · simp [h2]
  by_cases h3 : s = ⟨#[121, 105, 101, 108, 100]⟩
  · simp [h3]
  by_cases h4 : s = ⟨#[115, 107, 105, 112, 112]⟩
  · simp [h4]
  by_cases h5 : s = ⟨#[116, 104, 114, 111, 119, 119]⟩
  · simp [h5]
  simp only [h1, h2, h3, h4, h5, decide_false, cond_false, false_or]
theorem empty_lit [Dfr] : (⟨#[]⟩ : ByteArray) = ByteArray.empty := rfl
theorem arI_neg [Dfr] (k : Int) : decide (arI k < 0) = !(ar k).isSome := by
  unfold arI
  cases h : ar k with
  | none => rfl
  | some n => simp
theorem ref03_Right_s [Dfr] (n : Nd) (hs : n.2.1.size ≤ 9223372036854775807) : ref03_Right n = some (right n) := by
  rw [ref03_Right_eq]
  simp only [ref03_Arity_s, Option.bind_some, arI_neg, str_eq, empty_lit]
  unfold right
  by_cases h1 : n.1 = 1
  · have := ref03_Right_l0s n false hs n.2.1.data.toList 0 rfl
    rw [Int.natCast_zero] at this
    simp only [h1, this, Option.bind_some, ar]
    simp only [ref03_word_s, Option.bind_some, nameB]
    have e1 : decide ((n.2.1.size : Int) ≥ 1) = decide (1 ≤ n.2.1.size) := by congr 1; exact propext ⟨fun h => by omega, fun h => by omega⟩
    have e2 : decide ((n.2.1.size : Int) ≤ 8) = decide (n.2.1.size ≤ 8) := by congr 1; exact propext ⟨fun h => by omega, fun h => by omega⟩
    cases c1 : n.2.1.data.toList.all lowB with
    | false => simp [Nat.beq]
    | true =>
      simp only [if_true, Nat.beq_refl, cond_true, e1, e2, int_eq, Option.isSome_some, Bool.not_true, cond_false, decide_true]
      cases decide (1 ≤ n.2.1.size) <;> cases decide (n.2.1.size ≤ 8) <;> cases decide (n.2.2 = 0) <;> simp
  · by_cases h2 : n.1 = 11
    · simp [h2, ar, signB]
      by_cases c1 : n.2.1 = ByteArray.empty <;> by_cases c2 : 1 ≤ n.2.2 <;> simp [c1, c2]
    · by_cases h3 : n.1 = 14
      · simp [h3, ar, signB]
        by_cases c1 : n.2.1 = ByteArray.empty <;> by_cases c2 : 1 ≤ n.2.2 <;> simp [c1, c2]
      · simp only [beq_false_of_ne h1, beq_false_of_ne h2, beq_false_of_ne h3, cond_false, h1, h2, h3, or_self, if_false, int_eq]
        cases (ar n.1).isSome with
        | false => rfl
        | true =>
          by_cases c1 : n.2.1 = ByteArray.empty <;> by_cases c2 : n.2.2 = 0 <;> simp [c1, c2]
theorem ref03_Whole_l0s [Dfr] (l : List Nd) (b : Bool) (hl : l.length ≤ 4611686018427387904) (hs : ∀ n ∈ l, n.2.1.size ≤ 9223372036854775807) : ∀ (r : List Nd) (i : Nat), l.drop i = r → ref03_Whole_l0 l b (i : Int) = some (bif r.all right then (0, (l, b)) else (1, (l, false)))
  | [], i, h => by
    obtain ⟨h1, h2⟩ := drop_nil h
    rw [ref03_Whole_l0_eq]
    simp only [h2, cond_false, List.all_nil, cond_true]
  | x :: r, i, h => by
    obtain ⟨h1, h2, h3, h4, h5, h6⟩ := drop_cons h
    have hx : x.2.1.size ≤ 9223372036854775807 := hs x (List.mem_of_mem_drop (by rw [h]; exact List.mem_cons_self ..))
    rw [ref03_Whole_l0_eq]
    simp only [h2, h3, h4, cond_true, ref03_Right_s x hx, Option.bind_some, w_succ (show i < 9223372036854775807 by omega), ref03_Whole_l0s l b hl hs r (i + 1) h5, List.all_cons]
    cases right x <;> rfl
theorem P_len [Dfr] {l : List Nd} : one l = decide (sz l = l.length ∧ 1 ≤ l.length) := by
  unfold one sz
  cases h : P l with
  | none =>
    by_cases h1 : l.length = 0
    · simp [h1]
    · simp; omega
  | some q =>
    obtain ⟨t, r⟩ := q
    obtain ⟨h1, h2⟩ := P_some h
    have := congrArg List.length h2
    rw [List.length_append, T.len_row] at this
    have hp := t.size_pos
    cases r with
    | nil => simp at this ⊢; omega
    | cons x r => simp at this ⊢; omega
theorem ref03_Whole_s [Dfr] (l : List Nd) (hl : l.length ≤ 4611686018427387904) (hs : ∀ n ∈ l, n.2.1.size ≤ 9223372036854775807) : ref03_Whole l = some (whole l) := by
  rw [ref03_Whole_eq]
  have := ref03_Whole_l0s l false hl hs l 0 rfl
  rw [Int.natCast_zero] at this
  rw [this]
  unfold whole
  rw [P_len]
  cases h : l.all right with
  | true =>
    simp only [cond_true, Option.bind_some, Bool.true_and, Nat.beq_refl, cond_true, ref03_Size_s l hl]
    by_cases h1 : 1 ≤ l.length
    · by_cases h2 : l.length ≤ 200
      · have e1 : decide ((l.length : Int) ≥ 1) = true := decide_eq_true (by omega)
        have e2 : decide ((l.length : Int) ≤ 200) = true := decide_eq_true (by omega)
        simp only [e1, e2, cond_true, h1, h2, and_true, decide_true, Bool.true_and]
        by_cases h3 : sz l = l.length
        · simp [h3]
        · have : ((sz l : Int) == (l.length : Int)) = false := beq_false_of_ne (by omega)
          simp [h3, this]
      · have e1 : decide ((l.length : Int) ≥ 1) = true := decide_eq_true (by omega)
        have e2 : decide ((l.length : Int) ≤ 200) = false := decide_eq_false (by omega)
        simp [e1, e2, h2]
    · have e1 : decide ((l.length : Int) ≥ 1) = false := decide_eq_false (by omega)
      simp [e1, h1]
  | false => simp [Nat.beq]
/-- The trees behind the first node. -/
def kidsR (l : List Nd) : List (List Nd) := match P l with | some (t, _) => t.kids.map T.row | none => []
theorem take_drop_row [Dfr] {l : List Nd} {i : Nat} {a : T} {r : List Nd} (h : l.drop i = a.row ++ r) : cut l (i : Int) ((i + a.size : Nat) : Int) = a.row ∧ l.drop (i + a.size) = r ∧ i + a.size ≤ l.length ∧ cutOk (i : Int) ((i + a.size : Nat) : Int) l.length = true := by
  have hlen := congrArg List.length h
  rw [List.length_drop, List.length_append, T.len_row] at hlen
  have hp := a.size_pos
  refine ⟨?_, ?_, by omega, cutOk_nat (by omega) (by omega)⟩
  · rw [cut_nat, List.drop_take, h]
    rw [show i + a.size - i = a.row.length by rw [T.len_row]; omega, List.take_left]
  · rw [← List.drop_drop, h, ← T.len_row, List.drop_left]
theorem ref03_Kids_s [Dfr] (l : List Nd) (hl : l.length ≤ 4611686018427387904) : ref03_Kids l = some (kidsR l) := by
  rw [ref03_Kids_eq]
  simp only [ref03_Size_s l hl, Option.bind_some]
  unfold kidsR sz
  cases h : P l with
  | none => rfl
  | some q =>
    obtain ⟨t, r⟩ := q
    obtain ⟨hok, hl2⟩ := P_some h
    have hp := t.size_pos
    have e0 : (((t.size : Nat) : Int) == 0) = false := beq_false_of_ne (by omega)
    simp only [e0, cond_false]
    cases t with
    | n0 n =>
      have ha : ar n.1 = some 0 := hok
      have hix : ix l 0 = n := by rw [hl2]; rfl
      have hid : idxOk 0 l.length = true := idxOk_zero (by rw [hl2]; simp [T.row])
      rw [ref03_Kids_l0_eq]
      simp only [hid, hix, cond_true, ref03_Arity_s, Option.bind_some, arI, ha]
      rfl
    | n1 n a =>
      have ha : ar n.1 = some 1 := hok.1
      have hix : ix l 0 = n := by rw [hl2]; rfl
      have hid : idxOk 0 l.length = true := idxOk_zero (by rw [hl2]; simp [T.row])
      have hd1 : l.drop 1 = a.row ++ r := by rw [hl2]; rfl
      have hw := ref03_Walk_s l hl l.length 1 (by omega) (by have := congrArg List.length hl2; simp [T.row] at this; omega)
      obtain ⟨k1, k2, k3, k4⟩ := take_drop_row hd1
      unfold wk at hw
      rw [hd1, P_row hok.2] at hw
      rw [ref03_Kids_l0_eq]
      simp only [hid, hix, cond_true, ref03_Arity_s, Option.bind_some, arI, ha]
      rw [show decide ((0 : Int) < ((1 : Nat) : Int)) = true from rfl, show (1 : Int) = ((1 : Nat) : Int) from rfl, hw]
      simp only [cond_true, Option.bind_some, k1, k4, room (show (([] : List (List Nd)).length + 1) * 24 ≤ 140737488355328 by decide)]
      rw [ref03_Kids_l0_eq]
      simp only [hid, hix, cond_true, ref03_Arity_s, Option.bind_some, arI, ha]
      rfl
    | n2 n a b =>
      have ha : ar n.1 = some 2 := hok.1
      have hix : ix l 0 = n := by rw [hl2]; rfl
      have hid : idxOk 0 l.length = true := idxOk_zero (by rw [hl2]; simp [T.row])
      have hd1 : l.drop 1 = a.row ++ (b.row ++ r) := by rw [hl2]; simp [T.row]
      have hw := ref03_Walk_s l hl l.length 1 (by omega) (by have := congrArg List.length hl2; simp [T.row] at this; omega)
      obtain ⟨k1, k2, k3, k4⟩ := take_drop_row hd1
      unfold wk at hw
      rw [hd1, P_row hok.2.1] at hw
      have hw2 := ref03_Walk_s l hl l.length (1 + a.size) (by omega) k3
      obtain ⟨j1, j2, j3, j4⟩ := take_drop_row k2
      unfold wk at hw2
      rw [k2, P_row hok.2.2] at hw2
      rw [ref03_Kids_l0_eq]
      simp only [hid, hix, cond_true, ref03_Arity_s, Option.bind_some, arI, ha]
      rw [show decide ((0 : Int) < ((2 : Nat) : Int)) = true from rfl, show (1 : Int) = ((1 : Nat) : Int) from rfl, hw]
      simp only [cond_true, Option.bind_some, k1, k4, room (show (([] : List (List Nd)).length + 1) * 24 ≤ 140737488355328 by decide)]
      rw [ref03_Kids_l0_eq]
      simp only [hid, hix, cond_true, ref03_Arity_s, Option.bind_some, arI, ha]
      rw [show decide (w64 (0 + ((1 : Nat) : Int)) < ((2 : Nat) : Int)) = true from rfl, hw2]
      simp only [cond_true, Option.bind_some, j1, j4, List.nil_append, room (show (([a.row] : List (List Nd)).length + 1) * 24 ≤ 140737488355328 by simp)]
      rw [ref03_Kids_l0_eq]
      simp only [hid, hix, cond_true, ref03_Arity_s, Option.bind_some, arI, ha]
      rfl
theorem kidsR_tm [Dfr] (m : Tm) : kidsR m.row = m.t.kids.map T.row := by
  unfold kidsR
  rw [show P m.row = some (m.t, []) from P_row' m.t_ok]
end Go.Proofs.YtjogkjgpbeenfaaGreatDoor.Sv
