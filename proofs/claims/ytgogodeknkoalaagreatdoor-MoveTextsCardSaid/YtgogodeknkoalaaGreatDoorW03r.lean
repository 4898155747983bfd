/- What the functions of package row compute: in plain words. -/
import Derived.Test.YtgogodeknkoalaaGreatDoorW03
namespace Go.Proofs.YtgogodeknkoalaaGreatDoor.Sv
open Go Go.Sv Go.Rd
set_option linter.unusedVariables false
set_option linter.unusedSimpArgs false
theorem row_Arity_s [Dfr] (k : Int) : row_Arity k = some (arI k) := by
  rw [row_Arity_eq]
  by_cases h1 : k = 1; · subst h1; rfl
  by_cases h2 : k = 2; · subst h2; rfl
  by_cases h3 : k = 3; · subst h3; rfl
  by_cases h4 : k = 4; · subst h4; rfl
  by_cases h5 : k = 5; · subst h5; rfl
  by_cases h6 : k = 6; · subst h6; rfl
  by_cases h7 : k = 7; · subst h7; rfl
  by_cases h8 : k = 8; · subst h8; rfl
  by_cases h9 : k = 9; · subst h9; rfl
  by_cases h10 : k = 10; · subst h10; rfl
  by_cases h11 : k = 11; · subst h11; rfl
  by_cases h12 : k = 12; · subst h12; rfl
  by_cases h13 : k = 13; · subst h13; rfl
  by_cases h14 : k = 14; · subst h14; rfl
  have e : ∀ c : Int, ¬ k = c → (k == c) = false := fun c h => beq_false_of_ne h
  simp only [e _ h1, e _ h2, e _ h3, e _ h4, e _ h5, e _ h6, e _ h7, e _ h8, e _ h9, e _ h10, e _ h11, e _ h12, e _ h13, e _ h14, cond_false]
  simp [arI, ar, *]
theorem row_Same_s [Dfr] (xs ys : List Nd) (hx : xs.length ≤ 4611686018427387904) : row_Same xs ys = some (decide (xs = ys)) := by
  rw [row_Same_eq, slices_Equal__api_Node_s xs ys hx]
  rfl
/-- How many nodes the first k + 1 trees have. -/
def scan : Nat → List Nd → Option Nat
  | _, [] => none
  | k, n :: l => match ar n.1 with
    | none => none
    | some m => if k + m = 1 then some 1 else (scan (k + m - 1) l).map (· + 1)
theorem scan_cons [Dfr] (k : Nat) (n : Nd) (l : List Nd) : scan k (n :: l) = match ar n.1 with
    | none => none
    | some m => if k + m = 1 then some 1 else (scan (k + m - 1) l).map (· + 1) := rfl
theorem scan_P [Dfr] : ∀ (n : Nat) (l : List Nd) (k : Nat), l.length ≤ n → scan (k + 1) l = match P l with
    | none => none
    | some (t, r) => if k = 0 then some t.size else (scan k r).map (t.size + ·) := by
  intro n
  induction n with
  | zero =>
    intro l k h
    have : l = [] := List.eq_nil_of_length_eq_zero (by omega)
    subst this; rfl
  | succ n ih =>
    intro l k h
    cases l with
    | nil => rfl
    | cons x l =>
      simp only [List.length_cons] at h
      rw [P_cons, scan_cons]
      cases ha : ar x.1 with
      | none => rfl
      | some m =>
        have hm := ar_le ha
        rcases m with _ | _ | _ | m
        · simp only [Nat.add_zero]
          by_cases hk : k = 0
          · simp [hk, T.size]
          · rw [if_neg (by omega)]
            simp only [hk, if_false, Nat.add_sub_cancel, T.size]
            congr 1; funext q; omega
        · simp only
          rw [if_neg (by omega), show k + 1 + (0 + 1) - 1 = k + 1 by omega, ih l k (by omega)]
          cases hp : P l with
          | none => rfl
          | some q =>
            obtain ⟨a, r⟩ := q
            simp only
            by_cases hk : k = 0
            · simp [hk, T.size]
            · simp only [hk, if_false, Option.map_map, T.size]
              congr 1; funext q; simp only [Function.comp]; omega
        · simp only
          rw [if_neg (by omega), show k + 1 + (0 + 1 + 1) - 1 = k + 1 + 1 by omega, ih l (k + 1) (by omega)]
          cases hp : P l with
          | none => rfl
          | some q =>
            obtain ⟨a, r⟩ := q
            simp only
            rw [if_neg (by omega)]
            have hl := congrArg List.length (P_some hp).2
            rw [List.length_append, T.len_row] at hl
            rw [ih r k (by omega)]
            cases hp2 : P r with
            | none => rfl
            | some q2 =>
              obtain ⟨b, r2⟩ := q2
              simp only
              by_cases hk : k = 0
              · simp [hk, T.size]
              · simp only [hk, if_false, Option.map_map, T.size]
                congr 1; funext q; simp only [Function.comp]; omega
        · omega
theorem row_Size_l0s [Dfr] (l : List Nd) (y : Int) (hl : l.length ≤ 1000000000000) : ∀ (r : List Nd) (i k : Nat), l.drop i = r → 1 ≤ k → k + r.length * 2 ≤ 4000000000000 → row_Size_l0 y (k : Int) l (l.length : Int) (i : Int) = some (match scan k r with | some n => (1, ((i + n : Nat) : Int)) | none => (0, y))
  | [], i, k, h, hk, hb => by
    obtain ⟨h1, h2⟩ := drop_nil h
    rw [row_Size_l0_eq]
    simp only [h2, cond_false, scan]
  | x :: r, i, k, h, hk, hb => by
    obtain ⟨h1, h2, h3, h4, h5, h6⟩ := drop_cons h
    simp only [List.length_cons] at hb
    rw [row_Size_l0_eq]
    simp only [h2, h3, h4, cond_true, row_Arity_s, Option.bind_some]
    rw [scan_cons]
    cases ha : ar x.1 with
    | none => simp only [arI, ha]; rfl
    | some m =>
      have hm := ar_le ha
      have e1 : arI x.1 = (m : Int) := by simp [arI, ha]
      have e2 : decide ((m : Int) < 0) = false := decide_eq_false (by omega)
      have e3 : w64 ((k : Int) + w64 ((m : Int) - 1)) = ((k + m - 1 : Nat) : Int) := by
        rw [w64_id (n := (m : Int) - 1) (by omega) (by omega), w64_id (by omega) (by omega)]; omega
      simp only [e1, e2, cond_false, e3, w_succ (show i < 9223372036854775807 by omega)]
      by_cases hz : k + m = 1
      · have e4 : (((k + m - 1 : Nat) : Int) == 0) = true := by rw [hz]; rfl
        rw [if_pos hz]
        simp only [e4, cond_true]
      · have e4 : (((k + m - 1 : Nat) : Int) == 0) = false := beq_false_of_ne (by omega)
        rw [if_neg hz]
        simp only [e4, cond_false]
        rw [row_Size_l0s l y hl r (i + 1) (k + m - 1) h5 (by omega) (by omega)]
        cases scan (k + m - 1) r with
        | none => rfl
        | some n => simp only [Option.map_some]; congr 3; omega
theorem row_Size_s [Dfr] (l : List Nd) (hl : l.length ≤ 1000000000) : row_Size l = some (sz l : Int) := by
  rw [row_Size_eq]
  have h := row_Size_l0s l 0 (by omega) l 0 1 rfl (by omega) (by omega)
  rw [scan_P l.length l 0 (Nat.le_refl _)] at h
  rw [Int.natCast_zero, show ((1 : Nat) : Int) = 1 from rfl] at h
  rw [h]
  unfold sz
  cases P l with
  | none => rfl
  | some q => simp [Nat.beq]
theorem row_Kids_s [Dfr] (l : List Nd) (hl : l.length ≤ 1000000000) : row_Kids l = some (kidsR l) := by
  rw [row_Kids_eq]
  simp only [row_Size_s l hl, Option.bind_some]
  unfold kidsR sz
  cases h : P l with
  | none => rfl
  | some q =>
    obtain ⟨t, r⟩ := q
    obtain ⟨hok, hl2⟩ := P_some h
    have hp := t.size_pos
    have e0 : (((t.size : Nat) : Int) == 0) = false := beq_false_of_ne (by omega)
    simp only [e0, cond_false]
    have szd : ∀ (i : Nat) (a : T) (s : List Nd), a.ok → l.drop i = a.row ++ s → i ≤ l.length → cutOk (i : Int) (l.length : Int) l.length = true ∧ row_Size (cut l (i : Int) (l.length : Int)) = some (a.size : Int) ∧ w64 ((i : Int) + (a.size : Int)) = ((i + a.size : Nat) : Int) ∧ slices_Clone__api_Node (cut l (i : Int) ((i + a.size : Nat) : Int)) = some a.row := by
      intro i a s ha hd hi
      obtain ⟨k1, k2, k3, k4⟩ := take_drop_row hd
      refine ⟨cutOk_nat hi (Nat.le_refl _), ?_, ?_, ?_⟩
      · rw [cut_end, hd, row_Size_s _ (by have := congrArg List.length hd; rw [List.length_drop] at this; omega)]
        unfold sz
        rw [P_row ha]
      · rw [w64_id (by omega) (by omega)]; omega
      · rw [k1, slices_Clone__api_Node_s _ (by rw [T.len_row]; omega)]
    cases t with
    | n0 n =>
      have ha : ar n.1 = some 0 := hok
      have hix : ix l 0 = n := by rw [hl2]; rfl
      have hid : idxOk 0 l.length = true := idxOk_zero (by rw [hl2]; simp [T.row])
      simp only [hid, hix, cond_true, row_Arity_s, Option.bind_some, arI, ha]
      rw [row_Kids_l0_eq]
      rfl
    | n1 n a =>
      have ha : ar n.1 = some 1 := hok.1
      have hix : ix l 0 = n := by rw [hl2]; rfl
      have hid : idxOk 0 l.length = true := idxOk_zero (by rw [hl2]; simp [T.row])
      have hd1 : l.drop 1 = a.row ++ r := by rw [hl2]; rfl
      obtain ⟨k1, k2, k3, k4⟩ := take_drop_row hd1
      obtain ⟨s1, s2, s3, s4⟩ := szd 1 a r hok.2 hd1 (by omega)
      simp only [hid, hix, cond_true, row_Arity_s, Option.bind_some, arI, ha]
      rw [row_Kids_l0_eq, show decide ((0 : Int) < ((1 : Nat) : Int)) = true from rfl, show (1 : Int) = ((1 : Nat) : Int) from rfl]
      simp only [cond_true, s1, s2, s3, s4, k4, Option.bind_some, room (show (([] : List (List Nd)).length + 1) * 24 ≤ 140737488355328 by decide)]
      rw [row_Kids_l0_eq]
      rfl
    | n2 n a b =>
      have ha : ar n.1 = some 2 := hok.1
      have hix : ix l 0 = n := by rw [hl2]; rfl
      have hid : idxOk 0 l.length = true := idxOk_zero (by rw [hl2]; simp [T.row])
      have hd1 : l.drop 1 = a.row ++ (b.row ++ r) := by rw [hl2]; simp [T.row]
      obtain ⟨k1, k2, k3, k4⟩ := take_drop_row hd1
      obtain ⟨s1, s2, s3, s4⟩ := szd 1 a _ hok.2.1 hd1 (by omega)
      obtain ⟨j1, j2, j3, j4⟩ := take_drop_row k2
      obtain ⟨u1, u2, u3, u4⟩ := szd (1 + a.size) b _ hok.2.2 k2 k3
      simp only [hid, hix, cond_true, row_Arity_s, Option.bind_some, arI, ha]
      rw [row_Kids_l0_eq, show decide ((0 : Int) < ((2 : Nat) : Int)) = true from rfl, show (1 : Int) = ((1 : Nat) : Int) from rfl]
      simp only [cond_true, s1, s2, s3, s4, k4, Option.bind_some, room (show (([] : List (List Nd)).length + 1) * 24 ≤ 140737488355328 by decide)]
      rw [row_Kids_l0_eq, show decide (w64 (0 + ((1 : Nat) : Int)) < ((2 : Nat) : Int)) = true from rfl]
      simp only [cond_true, u1, u2, u3, u4, j4, Option.bind_some, List.nil_append, room (show (([a.row] : List (List Nd)).length + 1) * 24 ≤ 140737488355328 by simp)]
      rw [row_Kids_l0_eq]
      rfl
theorem row_Make_s [Dfr] (n : Nd) (ks : List (List Nd)) (hx : sumLen ks ≤ 1000000) (hn : ks.length ≤ 1000000) : row_Make n ks = some (n :: ks.flatten) := by
  rw [row_Make_eq, slices_Concat__api_Node_s ks (by omega) (by omega)]
  have := sumLen_flatten ks
  simp only [Option.bind_some, room (show (1 + ks.flatten.length) * 32 ≤ 140737488355328 by omega), cond_true]
  rfl
theorem row_Make2 [Dfr] (n : Nd) (a b : List Nd) (ha : a.length ≤ 100000) (hb : b.length ≤ 100000) : row_Make n [a, b] = some (n :: (a ++ b)) := by
  rw [row_Make_s n [a, b] (by simp [sumLen]; omega) (by simp)]
  simp
theorem row_Make1 [Dfr] (n : Nd) (a : List Nd) (ha : a.length ≤ 100000) : row_Make n [a] = some (n :: a) := by
  rw [row_Make_s n [a] (by simp [sumLen]; omega) (by simp)]
  simp
/-! ### names -/
def letters : ByteArray := ⟨#[97, 98, 99, 100, 101, 102, 103, 104, 105, 106, 107, 108, 109, 110, 111, 112, 113, 114, 115, 116, 117, 118, 119, 120, 121, 122]⟩
theorem letters_low [Dfr] (b : UInt8) : letters.data.toList.contains b = lowB b := by
  have h : ∀ n : Nat, n < 256 → letters.data.toList.contains (UInt8.ofNat n) = lowB (UInt8.ofNat n) := by decide +kernel
  have := h b.toNat b.toNat_lt
  rwa [UInt8.ofNat_toNat] at this
theorem dropWhile_nil [Dfr] {p : UInt8 → Bool} : ∀ {l : List UInt8}, l.dropWhile p = [] ↔ l.all p = true
  | [] => by simp
  | x :: r => by
    rw [List.dropWhile_cons, List.all_cons]
    cases h : p x with
    | true => simpa using dropWhile_nil (l := r)
    | false => simp
theorem dropWhile_all [Dfr] {p : UInt8 → Bool} : ∀ {l : List UInt8}, (l.dropWhile p).all p = true ↔ l.all p = true
  | [] => by simp
  | x :: r => by
    rw [List.dropWhile_cons, List.all_cons]
    cases h : p x with
    | true => simpa using dropWhile_all (l := r)
    | false => simp [h]
theorem all_rev [Dfr] {p : UInt8 → Bool} (l : List UInt8) : l.reverse.all p = l.all p := by
  rw [Bool.eq_iff_iff, List.all_eq_true, List.all_eq_true]
  exact ⟨fun h x hx => h x (List.mem_reverse.2 hx), fun h x hx => h x (List.mem_reverse.1 hx)⟩
theorem trimS_nil [Dfr] (l cs : List UInt8) : Lib.trimS l cs = [] ↔ l.all (cs.contains ·) = true := by
  unfold Lib.trimS Lib.trimLeftS Lib.trimRightS
  rw [dropWhile_nil, all_rev, dropWhile_all, all_rev]
theorem row_named_s [Dfr] (s : ByteArray) : row_named s = some (nameB s) := by
  rw [row_named_eq]
  simp only [str_eq, empty_lit]
  by_cases h0 : s = ByteArray.empty
  · subst h0; rfl
  · have hsz : 1 ≤ s.size := by
      rcases Nat.eq_zero_or_pos s.size with h | h
      · exfalso; apply h0
        obtain ⟨⟨l⟩⟩ := s
        have : l = [] := List.eq_nil_of_length_eq_zero h
        rw [this]; rfl
      · exact h
    simp only [decide_eq_false h0, Bool.not_false, cond_true]
    by_cases h8 : s.size ≤ 8
    · have e2 : decide ((s.size : Int) ≤ 8) = true := decide_eq_true (by omega)
      have ht : strings_Trim s (⟨#[97, 98, 99, 100, 101, 102, 103, 104, 105, 106, 107, 108, 109, 110, 111, 112, 113, 114, 115, 116, 117, 118, 119, 120, 121, 122]⟩) = some ⟨(Lib.trimS s.data.toList letters.data.toList).toArray⟩ := by
        rw [strings_Trim_eq]
        unfold strings_Trim_spec trimSpec
        rw [decide_eq_true (show s.size ≤ 9223372036854775807 by omega)]
        rfl
      have e3 : decide ((⟨(Lib.trimS s.data.toList letters.data.toList).toArray⟩ : ByteArray) = ByteArray.empty) = s.data.toList.all lowB := by
        rw [show (ByteArray.empty : ByteArray) = ⟨([] : List UInt8).toArray⟩ from rfl]
        have e4 : ((⟨(Lib.trimS s.data.toList letters.data.toList).toArray⟩ : ByteArray) = ⟨([] : List UInt8).toArray⟩) ↔ Lib.trimS s.data.toList letters.data.toList = [] := by
          constructor
          · intro h; injection h with h; injection h
          · intro h; rw [h]
        have this : (fun x => letters.data.toList.contains x) = lowB := funext letters_low
        have e5 := e4.trans (trimS_nil s.data.toList letters.data.toList)
        rw [this] at e5
        cases hA : s.data.toList.all lowB with
        | true => exact decide_eq_true (e5.2 hA)
        | false => exact decide_eq_false fun h => by rw [e5.1 h] at hA; cases hA
      simp only [e2, cond_true, ht, Option.bind_some, e3, slices_Contains__string_s row_words s (by decide), nameB]
      rw [show row_words = wordsL from rfl, decide_eq_true hsz, decide_eq_true h8]
      cases s.data.toList.all lowB <;> rfl
    · have e2 : decide ((s.size : Int) ≤ 8) = false := decide_eq_false (by omega)
      simp [e2, nameB, h8]
theorem row_Right_s [Dfr] (n : Nd) : row_Right n = some (right n) := by
  rw [row_Right_eq]
  simp only [row_Arity_s, Option.bind_some, str_eq, empty_lit, row_named_s, int_eq, decide_true, Bool.true_and]
  unfold right
  by_cases h1 : n.1 = 1
  · simp only [h1, decide_true, cond_true, if_true]
    cases nameB n.2.1 <;> cases decide (n.2.2 = 0) <;> rfl
  · by_cases h2 : n.1 = 11
    · simp [h2, signB]
      by_cases c1 : n.2.1 = ByteArray.empty <;> by_cases c2 : 1 ≤ n.2.2 <;> simp [c1, c2]
    · by_cases h3 : n.1 = 14
      · simp [h3, signB]
        by_cases c1 : n.2.1 = ByteArray.empty <;> by_cases c2 : 1 ≤ n.2.2 <;> simp [c1, c2]
      · simp only [h1, h2, h3, decide_false, cond_false, or_self, if_false]
        have e : decide (arI n.1 ≥ 0) = (ar n.1).isSome := by
          unfold arI
          cases ar n.1 with
          | none => rfl
          | some m => simp
        rw [e]
        by_cases c1 : n.2.1 = ByteArray.empty <;> by_cases c2 : n.2.2 = 0 <;> cases (ar n.1).isSome <;> simp [c1, c2]
theorem row_Whole_1_s [Dfr] (n : Nd) : row_Whole_1 n = some (!right n) := by
  rw [row_Whole_1_eq, row_Right_s]
  rfl
theorem row_Whole_s [Dfr] (l : List Nd) (hl : l.length ≤ 4611686018427387904) : row_Whole l = some (whole l) := by
  rw [row_Whole_eq]
  unfold whole
  rw [P_len]
  by_cases h1 : 1 ≤ l.length
  · have e1 : decide ((l.length : Int) > 0) = true := decide_eq_true (by omega)
    by_cases h2 : l.length ≤ 200
    · have e2 : decide ((l.length : Int) ≤ 200) = true := decide_eq_true (by omega)
      have hc := slices_ContainsFunc__api_Node_s l ⟨row_Whole_1_id, []⟩ (fun n => !right n) (by omega) (fun x hx => by rw [row_Whole_1_dyn]; exact row_Whole_1_s x)
      have ea : (!(l.any fun n => !right n)) = l.all right := by rw [List.not_any_eq_all_not]; simp
      simp only [e1, e2, cond_true, hc, Option.bind_some, ea, row_Size_s l (by omega), int_eq, h1, h2, decide_true, and_true, Bool.true_and]
      cases l.all right with
      | false => rfl
      | true =>
        simp only [cond_true, Bool.true_and]
        congr 1
        rw [decide_eq_decide]
        omega
    · have e2 : decide ((l.length : Int) ≤ 200) = false := decide_eq_false (by omega)
      simp only [e1, e2, cond_true, cond_false, h2, decide_false, Bool.false_and, Bool.and_false]
  · have e1 : decide ((l.length : Int) > 0) = false := decide_eq_false (by omega)
    simp only [e1, cond_false, h1, and_false, decide_false, Bool.and_false]
/-! ### counts -/
theorem row_Count_l [Dfr] (ks : List Int) (l : List Nd) (hl : l.length ≤ 1000000000) (hk : ks.length ≤ 1000) : ∀ (r : List Nd) (i n : Nat), l.drop i = r → n ≤ i → row_Count_l0 ks (n : Int) l (l.length : Int) (i : Int) = some (0, ((n + r.countP (fun x => decide (x.1 ∈ ks)) : Nat) : Int))
  | [], i, n, h, hn => by
    obtain ⟨h1, h2⟩ := drop_nil h
    rw [row_Count_l0_eq]
    simp only [h2, cond_false, List.countP_nil, Nat.add_zero]
  | x :: r, i, n, h, hn => by
    obtain ⟨h1, h2, h3, h4, h5, h6⟩ := drop_cons h
    rw [row_Count_l0_eq]
    simp only [h2, h3, h4, cond_true, slices_Contains__int_s ks _ (show ks.length ≤ 4611686018427387904 by omega), Option.bind_some, w_succ (show i < 9223372036854775807 by omega), w_succ (show n < 9223372036854775807 by omega), List.countP_cons]
    cases h7 : decide (x.1 ∈ ks) with
    | true =>
      simp only [cond_true, row_Count_l ks l hl hk r (i + 1) (n + 1) h5 (by omega), if_true]
      congr 3; omega
    | false =>
      simp only [cond_false, row_Count_l ks l hl hk r (i + 1) n h5 (by omega), Bool.false_eq_true, if_false, Nat.add_zero]
theorem row_Count_s [Dfr] (l : List Nd) (ks : List Int) (hl : l.length ≤ 1000000000) (hk : ks.length ≤ 1000) : row_Count l ks = some ((l.countP (fun x => decide (x.1 ∈ ks)) : Nat) : Int) := by
  rw [row_Count_eq]
  have := row_Count_l ks l hl hk l 0 0 rfl (by omega)
  rw [Int.natCast_zero] at this
  rw [this, Nat.zero_add]; rfl
end Go.Proofs.YtgogodeknkoalaaGreatDoor.Sv
