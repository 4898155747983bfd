/- The laws of traces: what they tell. -/
import Derived.Test.YtmpdpboamnpnfaaW02
namespace Go.Proofs.Ytmpdpboamnpnfaa.Sv
open Go Go.Sv Go.Rd
set_option linter.unusedVariables false
set_option linter.unusedSimpArgs false

/-- What the program's own traces keep. -/
def wfT (t : Tc) : Prop := (t.1.length ≤ reachBytes ∧ ∀ x ∈ t.1, x.size ≤ reachBytes) ∧ (Lit.int .i64 t.2).wf = true
def wfTs (l : List Tc) : Prop := l.length ≤ reachBytes ∧ ∀ x ∈ l, wfT x
theorem wfT.len [Dfr] {t : Tc} (h : wfT t) : t.1.length ≤ 140737488351232 := h.1.1
theorem wfTs.short [Dfr] {l : List Tc} (h : wfTs l) : shortT l := fun x hx => by have := (h.2 x hx).len; omega

/-! ### few -/
theorem law02_few_l0a [Dfr] (l : List Tc) (hl : l.length ≤ 140737488351232) : ∀ (r : List Tc) (i : Nat) (n : Int), l.drop i = r → ∃ m, law02_few_l0 l n l (l.length : Int) (i : Int) = some (0, (l, m))
  | [], i, n, h => by
    obtain ⟨h1, h2⟩ := drop_nil h
    refine ⟨n, ?_⟩
    rw [law02_few_l0_eq]
    simp only [h2, cond_false]
  | x :: r, i, n, h => by
    obtain ⟨h1, h2, h3, h4, h5, h6⟩ := drop_cons h
    obtain ⟨m, hm⟩ := law02_few_l0a l hl r (i + 1) (w64 (n + ((ix l (i : Int)).1.length : Int))) h5
    refine ⟨m, ?_⟩
    rw [law02_few_l0_eq]
    simp only [h2, h3, cond_true, w_succ (show i < 9223372036854775807 by omega), hm]

def sumA : List Tc → Nat
  | [] => 0
  | t :: r => t.1.length + sumA r
theorem sumA_mem [Dfr] : ∀ {l : List Tc} {t : Tc}, t ∈ l → t.1.length ≤ sumA l
  | x :: r, t, h => by
    rcases List.mem_cons.1 h with rfl | h
    · simp [sumA]
    · have := sumA_mem h; simp only [sumA]; omega
theorem sumA_le [Dfr] : ∀ {l : List Tc}, (∀ t ∈ l, t.1.length ≤ 140737488351232) → sumA l ≤ l.length * 140737488351232
  | [], _ => by simp [sumA]
  | x :: r, h => by
    have h1 := h x (List.mem_cons_self ..)
    have h2 := sumA_le fun t ht => h t (List.mem_cons_of_mem _ ht)
    simp only [sumA, List.length_cons]; omega

theorem law02_few_l0b [Dfr] (l : List Tc) (hl : l.length ≤ 100) (hs : ∀ t ∈ l, t.1.length ≤ 140737488351232) : ∀ (r : List Tc) (i n : Nat), l.drop i = r → n ≤ i * 140737488351232 → law02_few_l0 l (n : Int) l (l.length : Int) (i : Int) = some (0, (l, ((n + sumA r : Nat) : Int)))
  | [], i, n, h, hn => by
    obtain ⟨h1, h2⟩ := drop_nil h
    rw [law02_few_l0_eq]
    simp only [h2, cond_false, sumA, Nat.add_zero]
  | x :: r, i, n, h, hn => by
    obtain ⟨h1, h2, h3, h4, h5, h6⟩ := drop_cons h
    have mx := hs x (List.mem_of_mem_drop (by rw [h]; exact List.mem_cons_self ..))
    have hw : w64 ((n : Int) + (x.1.length : Int)) = ((n + x.1.length : Nat) : Int) := by rw [w64_id (by omega) (by omega)]; omega
    rw [law02_few_l0_eq]
    simp only [h2, h3, h4, cond_true, hw, w_succ (show i < 9223372036854775807 by omega), law02_few_l0b l hl hs r (i + 1) (n + x.1.length) h5 (by omega), sumA, Nat.add_assoc]

theorem law02_few_s [Dfr] (l : List Tc) (hl : l.length ≤ 140737488351232) (hs : ∀ t ∈ l, t.1.length ≤ 140737488351232) : law02_few l = some (decide (l.length ≤ 100 ∧ sumA l ≤ 1000)) := by
  rw [law02_few_eq]
  by_cases h : l.length ≤ 100
  · have e := law02_few_l0b l h hs l 0 0 rfl (by omega)
    rw [Int.natCast_zero, Nat.zero_add] at e
    rw [e, Option.bind_some]
    have e1 : decide ((l.length : Int) ≤ 100) = true := decide_eq_true (by omega)
    simp only [e1, cond_true, h, true_and]
    congr 1
    rw [decide_eq_decide]; omega
  · obtain ⟨m, hm⟩ := law02_few_l0a l hl l 0 0 rfl
    rw [Int.natCast_zero] at hm
    rw [hm, Option.bind_some]
    have e1 : decide ((l.length : Int) ≤ 100) = false := decide_eq_false (by omega)
    simp only [e1, cond_false, h, false_and, decide_false]

/-! ### Olds, News, rows, within -/
theorem law02_News_l0s [Dfr] (xs : List Tc) (hx : xs.length ≤ 1000000000) : ∀ (r : List Tc) (i : Nat) (acc : List Tc), xs.drop i = r → acc.length ≤ i → law02_News_l0 acc xs (xs.length : Int) (i : Int) = some (0, acc ++ r)
  | [], i, acc, h, ha => by
    obtain ⟨h1, h2⟩ := drop_nil h
    rw [law02_News_l0_eq]
    simp only [h2, cond_false, List.append_nil]
  | x :: r, i, acc, h, ha => by
    obtain ⟨h1, h2, h3, h4, h5, h6⟩ := drop_cons h
    rw [law02_News_l0_eq]
    simp only [h2, h3, h4, cond_true, room (show (acc.length + 1) * 32 ≤ 140737488355328 by omega), w_succ (show i < 9223372036854775807 by omega), law02_News_l0s xs hx r (i + 1) (acc ++ [x]) h5 (by simp; omega), List.append_assoc, List.singleton_append]

theorem law02_News_s [Dfr] (xs : List Tc) (hx : xs.length ≤ 1000000000) : law02_News xs = some xs := by
  have e := law02_News_l0s xs hx xs 0 [] rfl (by simp)
  rw [Int.natCast_zero] at e
  rw [law02_News_eq, e]; rfl

theorem law02_Olds_l0s [Dfr] (xs : List Tc) (hx : xs.length ≤ 1000000000) : ∀ (r : List Tc) (i : Nat) (acc : List Tc), xs.drop i = r → acc.length ≤ i → law02_Olds_l0 acc xs (xs.length : Int) (i : Int) = some (0, acc ++ r)
  | [], i, acc, h, ha => by
    obtain ⟨h1, h2⟩ := drop_nil h
    rw [law02_Olds_l0_eq]
    simp only [h2, cond_false, List.append_nil]
  | x :: r, i, acc, h, ha => by
    obtain ⟨h1, h2, h3, h4, h5, h6⟩ := drop_cons h
    rw [law02_Olds_l0_eq]
    simp only [h2, h3, h4, cond_true, room (show (acc.length + 1) * 32 ≤ 140737488355328 by omega), w_succ (show i < 9223372036854775807 by omega), law02_Olds_l0s xs hx r (i + 1) (acc ++ [x]) h5 (by simp; omega), List.append_assoc, List.singleton_append]

theorem law02_Olds_s [Dfr] (xs : List Tc) (hx : xs.length ≤ 1000000000) : law02_Olds xs = some xs := by
  have e := law02_Olds_l0s xs hx xs 0 [] rfl (by simp)
  rw [Int.natCast_zero] at e
  rw [law02_Olds_eq, e]; rfl

theorem law02_rows_l0s [Dfr] (xs : List (List ByteArray)) (hx : xs.length ≤ 1000000000) (hs : ∀ l ∈ xs, l.length ≤ 1000000000) (b : Bool) : ∀ (r : List (List ByteArray)) (i : Nat), xs.drop i = r → law02_rows_l0 xs xs b (xs.length : Int) (i : Int) = some (0, b)
  | [], i, h => by
    obtain ⟨h1, h2⟩ := drop_nil h
    rw [law02_rows_l0_eq]
    simp only [h2, cond_false]
  | x :: r, i, h => by
    obtain ⟨h1, h2, h3, h4, h5, h6⟩ := drop_cons h
    have mx := hs x (List.mem_of_mem_drop (by rw [h]; exact List.mem_cons_self ..))
    obtain ⟨n, hn, hn1, hn2⟩ := ref02_Row_s x x (by omega) (by omega)
    rw [ordA.rfl'] at hn1 hn2
    have e : n = 0 := by
      have a : ¬ n < 0 := fun h => by have := hn1.1 h; cases this
      have b : ¬ 0 < n := fun h => by have := hn2.1 h; cases this
      omega
    subst e
    rw [law02_rows_l0_eq]
    simp only [h2, h3, h4, cond_true, hn, Option.bind_some, w_succ (show i < 9223372036854775807 by omega), law02_rows_l0s xs hx hs b r (i + 1) h5]
    rfl

theorem law02_rows_self [Dfr] (xs : List (List ByteArray)) (hx : xs.length ≤ 1000000000) (hs : ∀ l ∈ xs, l.length ≤ 1000000000) : law02_rows xs xs = some true := by
  have e := law02_rows_l0s xs hx hs false xs 0 rfl
  rw [Int.natCast_zero] at e
  have e1 : ((xs.length : Int) != (xs.length : Int)) = false := by simp
  rw [law02_rows_eq, e1, cond_false, e]; rfl

theorem law02_within_l0s [Dfr] (a x : List ByteArray) (ha : a.length ≤ 1000000000) (hx : x.length ≤ 1000000000) : ∀ (r : List ByteArray) (i at_ : Nat), x.drop i = r → at_ ≤ a.length → ∃ k : Nat, law02_within_l0 a (at_ : Int) x (x.length : Int) (i : Int) = some (0, (a, (k : Int))) ∧ k ≤ a.length ∧ a.drop k = inOrder (a.drop at_) r
  | [], i, at_, h, hk => by
    obtain ⟨h1, h2⟩ := drop_nil h
    refine ⟨at_, ?_, hk, by cases a.drop at_ <;> rfl⟩
    rw [law02_within_l0_eq]
    simp only [h2, cond_false]
  | y :: r, i, at_, h, hk => by
    obtain ⟨h1, h2, h3, h4, h5, h6⟩ := drop_cons h
    have wi := w_succ (show i < 9223372036854775807 by omega)
    cases hd : a.drop at_ with
    | nil =>
      obtain ⟨k1, k2⟩ := drop_nil hd
      obtain ⟨k, e, hk', hr⟩ := law02_within_l0s a x ha hx r (i + 1) at_ h5 hk
      refine ⟨k, ?_, hk', by rw [hr, hd]; rfl⟩
      rw [law02_within_l0_eq]
      simp only [h2, h3, h4, k2, cond_true, cond_false, wi, e]
    | cons b s =>
      obtain ⟨k1, k2, k3, k4, k5, k6⟩ := drop_cons hd
      by_cases e : b = y
      · obtain ⟨k, e', hk', hr⟩ := law02_within_l0s a x ha hx r (i + 1) (at_ + 1) h5 (by omega)
        refine ⟨k, ?_, hk', by rw [hr, k5, inOrder, if_pos e]⟩
        rw [law02_within_l0_eq]
        simp only [h2, h3, h4, k2, k3, k4, cond_true, str_eq, decide_eq_true e, wi, w_succ (show at_ < 9223372036854775807 by omega), e']
      · obtain ⟨k, e', hk', hr⟩ := law02_within_l0s a x ha hx r (i + 1) at_ h5 hk
        refine ⟨k, ?_, hk', by rw [hr, hd, inOrder, if_neg e]⟩
        rw [law02_within_l0_eq]
        simp only [h2, h3, h4, k2, k3, k4, cond_true, str_eq, decide_eq_false e, cond_false, wi, e']

theorem law02_within_sub [Dfr] (a x : List ByteArray) (ha : a.length ≤ 1000000000) (hx : x.length ≤ 1000000000) (h : a.Sublist x) : law02_within a x = some true := by
  obtain ⟨k, e, hk, hr⟩ := law02_within_l0s a x ha hx x 0 0 rfl (by omega)
  rw [List.drop_zero, inOrder_sub h, List.drop_eq_nil_iff] at hr
  rw [Int.natCast_zero] at e
  rw [law02_within_eq, e]
  show some ((k : Int) == (a.length : Int)) = some true
  have : k = a.length := by omega
  rw [this]; simp

/-! ### texts -/
def spB : List UInt8 := [32]
/-- The bytes of a trace's actions, each with a blank behind it. -/
def textB : List ByteArray → List UInt8
  | [] => []
  | x :: r => x.data.toList ++ spB ++ textB r
def sizeB : List ByteArray → Nat
  | [] => 0
  | x :: r => x.size + 1 + sizeB r
theorem append_bytes [Dfr] (a b : ByteArray) : (a ++ b).data.toList = a.data.toList ++ b.data.toList := by
  rw [ByteArray.data_append, Array.toList_append]
theorem append_size [Dfr] (a b : ByteArray) : (a ++ b).size = a.size + b.size := ByteArray.size_append
theorem bytes_inj [Dfr] {a b : ByteArray} (h : a.data.toList = b.data.toList) : a = b := by
  obtain ⟨⟨a⟩⟩ := a
  obtain ⟨⟨b⟩⟩ := b
  have h' : a = b := h
  rw [h']

theorem trace_Text_l0s [Dfr] (t : Tc) (xs : List ByteArray) (hx : xs.length ≤ 1000000000) : ∀ (r : List ByteArray) (i : Nat) (acc : ByteArray), xs.drop i = r → acc.size + sizeB r ≤ 9223372036854775807 → ∃ s, trace_Text_l0 t acc xs (xs.length : Int) (i : Int) = some (0, (t, s)) ∧ s.data.toList = acc.data.toList ++ textB r ∧ s.size = acc.size + sizeB r
  | [], i, acc, h, hs => by
    obtain ⟨h1, h2⟩ := drop_nil h
    refine ⟨acc, ?_, by simp [textB], rfl⟩
    rw [trace_Text_l0_eq]
    simp only [h2, cond_false]
  | x :: r, i, acc, h, hs => by
    obtain ⟨h1, h2, h3, h4, h5, h6⟩ := drop_cons h
    simp only [sizeB] at hs
    have z1 : (⟨#[32]⟩ : ByteArray).size = 1 := rfl
    obtain ⟨s, e, hb, hz⟩ := trace_Text_l0s t xs hx r (i + 1) (acc ++ (x ++ (⟨#[32]⟩ : ByteArray))) h5 (by rw [append_size, append_size, z1]; omega)
    refine ⟨s, ?_, ?_, ?_⟩
    · rw [trace_Text_l0_eq]
      simp only [h2, h3, h4, cond_true, w_succ (show i < 9223372036854775807 by omega), append_size, z1, decide_eq_true (show x.size + 1 ≤ 9223372036854775807 by omega), decide_eq_true (show acc.size + (x.size + 1) ≤ 9223372036854775807 by omega), e]
    · rw [hb, append_bytes, append_bytes, textB, List.append_assoc]; rfl
    · rw [hz, append_size, append_size, z1, sizeB]; omega

theorem ref02_Text_l0s [Dfr] (t : Tc) (hx : t.1.length ≤ 1000000000) : ∀ (r : List ByteArray) (i : Nat) (acc : ByteArray), t.1.drop i = r → acc.size + sizeB r ≤ 9223372036854775807 → ∃ s, ref02_Text_l0 t acc (i : Int) = some (0, (t, s)) ∧ s.data.toList = acc.data.toList ++ textB r ∧ s.size = acc.size + sizeB r
  | [], i, acc, h, hs => by
    obtain ⟨h1, h2⟩ := drop_nil h
    refine ⟨acc, ?_, by simp [textB], rfl⟩
    rw [ref02_Text_l0_eq]
    simp only [h2, cond_false]
  | x :: r, i, acc, h, hs => by
    obtain ⟨h1, h2, h3, h4, h5, h6⟩ := drop_cons h
    simp only [sizeB] at hs
    have z1 : (⟨#[32]⟩ : ByteArray).size = 1 := rfl
    obtain ⟨s, e, hb, hz⟩ := ref02_Text_l0s t hx r (i + 1) ((acc ++ x) ++ (⟨#[32]⟩ : ByteArray)) h5 (by rw [append_size, append_size, z1]; omega)
    refine ⟨s, ?_, ?_, ?_⟩
    · rw [ref02_Text_l0_eq]
      simp only [h2, h3, h4, cond_true, w_succ (show i < 9223372036854775807 by omega), append_size, z1, decide_eq_true (show acc.size + x.size ≤ 9223372036854775807 by omega), decide_eq_true (show acc.size + x.size + 1 ≤ 9223372036854775807 by omega), e]
    · rw [hb, append_bytes, append_bytes, textB, List.append_assoc, List.append_assoc, List.append_assoc]; rfl
    · rw [hz, append_size, append_size, z1, sizeB]; omega

theorem texts_s [Dfr] (t : Tc) (hx : t.1.length ≤ 1000000000) (hs : sizeB t.1 + 2 ≤ 9223372036854775807) : ∃ s z, trace_Text t = some s ∧ ref02_Text t = some s ∧ ref01_Text t.2 = some z ∧ s.data.toList = textB t.1 ++ z.data.toList := by
  obtain ⟨z, hz, hz2⟩ := ref01_Text_s t.2
  have e0 : (ByteArray.mk #[]).size = 0 := rfl
  obtain ⟨s, e, hb, hsz⟩ := trace_Text_l0s t t.1 hx t.1 0 ⟨#[]⟩ rfl (by rw [e0]; omega)
  obtain ⟨s', e', hb', hsz'⟩ := ref02_Text_l0s t hx t.1 0 ⟨#[]⟩ rfl (by rw [e0]; omega)
  rw [Int.natCast_zero] at e e'
  have es : s' = s := bytes_inj (hb'.trans hb.symm)
  subst es
  have hd : decide (s'.size + z.size ≤ 9223372036854775807) = true := decide_eq_true (by rw [hsz, e0]; omega)
  refine ⟨s' ++ z, z, ?_, ?_, hz, ?_⟩
  · rw [trace_Text_eq, e, Option.bind_some]
    show ((sign_Text t.2).bind fun r2 => bif (decide (s'.size + r2.size ≤ 9223372036854775807)) then (some (s' ++ r2)) else (none)) = _
    rw [sign_Text_s, hz, Option.bind_some, hd, cond_true]
  · rw [ref02_Text_eq, e', Option.bind_some]
    show ((ref01_Text t.2).bind fun r2 => bif (decide (s'.size + r2.size ≤ 9223372036854775807)) then (some (s' ++ r2)) else (none)) = _
    rw [hz, Option.bind_some, hd, cond_true]
  · rw [append_bytes, hb]; rfl

/-- A small trace's text, as bytes. -/
theorem text_of [Dfr] (t : Tc) (z : ByteArray) (bs : List UInt8) (hz : ref01_Text t.2 = some z) (hx : t.1.length ≤ 1000000000) (hs : sizeB t.1 + 2 ≤ 9223372036854775807) (hb : textB t.1 ++ z.data.toList = bs) : trace_Text t = some ⟨bs.toArray⟩ := by
  obtain ⟨s, z', h1, _, h3, h4⟩ := texts_s t hx hs
  rw [hz] at h3
  cases h3
  rw [h1]
  congr 1
  apply bytes_inj
  rw [h4, hb]

/-! ### the witness -/
theorem mixes_a [Dfr] : mixes [] [⟨#[97]⟩] [⟨#[98]⟩, ⟨#[99]⟩] = [[⟨#[97]⟩, ⟨#[98]⟩, ⟨#[99]⟩], [⟨#[98]⟩, ⟨#[97]⟩, ⟨#[99]⟩], [⟨#[98]⟩, ⟨#[99]⟩, ⟨#[97]⟩]] := by
  simp [mixes]
theorem mixS_a [Dfr] : mixS [⟨#[97]⟩] [⟨#[98]⟩, ⟨#[99]⟩] = [[⟨#[97]⟩, ⟨#[98]⟩, ⟨#[99]⟩], [⟨#[98]⟩, ⟨#[97]⟩, ⟨#[99]⟩], [⟨#[98]⟩, ⟨#[99]⟩, ⟨#[97]⟩]] := by
  unfold mixS
  rw [mixes_a]
  refine canon_of_srt ordA ?_
  simp only [srt_cons, List.mem_cons, List.not_mem_nil, or_false, forall_eq_or_imp, forall_eq, false_imp_iff, implies_true, Srt.nil, and_true]
  simp only [cmpL, cmpB, ByteArray.toList_eq]
  decide

theorem law02_alive_s [Dfr] [HasMix] : law02_alive = some true := by
  have hp : trace_Par ([⟨#[97]⟩], 1) ([⟨#[98]⟩, ⟨#[99]⟩], 2) = some [([⟨#[97]⟩, ⟨#[98]⟩, ⟨#[99]⟩], 2), ([⟨#[98]⟩, ⟨#[97]⟩, ⟨#[99]⟩], 2), ([⟨#[98]⟩, ⟨#[99]⟩, ⟨#[97]⟩], 2)] := by
    rw [trace_Par_s _ _ (by simp)]
    unfold parE
    rw [mixS_a]
    rfl
  have ht1 : trace_Then ([⟨#[97]⟩], 1) ([⟨#[98]⟩, ⟨#[99]⟩], 2) = some ([⟨#[97]⟩, ⟨#[98]⟩, ⟨#[99]⟩], 2) := by rw [trace_Then_s _ _ (by simp)]; rfl
  have ht2 : trace_Then ([⟨#[98]⟩, ⟨#[99]⟩], 2) ([⟨#[97]⟩], 1) = some ([⟨#[98]⟩, ⟨#[99]⟩], 2) := by rw [trace_Then_s _ _ (by simp)]; rfl
  have hx1 : trace_Text ([⟨#[97]⟩, ⟨#[98]⟩, ⟨#[99]⟩], 2) = some ⟨#[97, 32, 98, 32, 99, 32, 33]⟩ := text_of _ ⟨#[33]⟩ [97, 32, 98, 32, 99, 32, 33] (by rw [ref01_Text_eq]; rfl) (by simp) (by decide) rfl
  have hx2 : trace_Text ([⟨#[98]⟩, ⟨#[99]⟩], 2) = some ⟨#[98, 32, 99, 32, 33]⟩ := text_of _ ⟨#[33]⟩ [98, 32, 99, 32, 33] (by rw [ref01_Text_eq]; rfl) (by simp) (by decide) rfl
  have hx3 : trace_Text ([⟨#[98]⟩, ⟨#[97]⟩, ⟨#[99]⟩], 2) = some ⟨#[98, 32, 97, 32, 99, 32, 33]⟩ := text_of _ ⟨#[33]⟩ [98, 32, 97, 32, 99, 32, 33] (by rw [ref01_Text_eq]; rfl) (by simp) (by decide) rfl
  have hm : trace_Mix [⟨#[97]⟩] [⟨#[98]⟩, ⟨#[99]⟩] = some [[⟨#[97]⟩, ⟨#[98]⟩, ⟨#[99]⟩], [⟨#[98]⟩, ⟨#[97]⟩, ⟨#[99]⟩], [⟨#[98]⟩, ⟨#[99]⟩, ⟨#[97]⟩]] := by rw [trace_Mix_s _ _ (by simp), mixS_a]
  have hlt : ∀ (A B : List ByteArray), cmpA A B = .lt → ∀ m n : Int, cmpT (A, m) (B, n) = .lt := fun A B h m n => by show Ordering.then _ _ = _; rw [then_lt]; exact .inl h
  have c1 : cmpA [⟨#[97]⟩] [⟨#[98]⟩, ⟨#[99]⟩] = .lt := by simp only [cmpL, cmpB, ByteArray.toList_eq]; decide
  have hc : trace_Compare ([⟨#[97]⟩], 1) ([⟨#[98]⟩, ⟨#[99]⟩], 2) = some (-1) := by rw [trace_Compare_s _ _ (by simp), hlt _ _ c1]; rfl
  have hset : trace_Set [([⟨#[98]⟩, ⟨#[99]⟩], 2), ([⟨#[97]⟩], 1), ([⟨#[98]⟩, ⟨#[99]⟩], 2)] = some [([⟨#[97]⟩], 1), ([⟨#[98]⟩, ⟨#[99]⟩], 2)] := by
    rw [trace_Set_s _ (by simp) (fun x hx => by simp at hx; rcases hx with rfl | rfl | rfl <;> simp)]
    congr 1
    refine (canon_srt ordT ?_ fun x => ?_).symm
    · simp only [srt_cons, List.mem_cons, List.not_mem_nil, or_false, forall_eq, false_imp_iff, implies_true, Srt.nil, and_true]
      exact hlt _ _ c1 _ _
    · simp only [List.mem_cons, List.not_mem_nil, or_false]
      constructor
      · rintro (h | h) <;> simp [h]
      · rintro (h | h | h) <;> simp [h]
  have hsr : ∀ e : Int, Srt cmpT [([⟨#[97]⟩, ⟨#[98]⟩, ⟨#[99]⟩], e), ([⟨#[98]⟩, ⟨#[97]⟩, ⟨#[99]⟩], e), ([⟨#[98]⟩, ⟨#[99]⟩, ⟨#[97]⟩], e)] := fun e => by
    have := srt_parE e [⟨#[97]⟩] [⟨#[98]⟩, ⟨#[99]⟩]
    unfold parE at this
    rw [mixS_a] at this
    exact this
  have hsh : shortT [([⟨#[97]⟩, ⟨#[98]⟩, ⟨#[99]⟩], 2), ([⟨#[98]⟩, ⟨#[97]⟩, ⟨#[99]⟩], 2), ([⟨#[98]⟩, ⟨#[99]⟩, ⟨#[97]⟩], 2)] := fun x hx => by simp at hx; rcases hx with rfl | rfl | rfl <;> simp
  have hor : trace_Or [([⟨#[97]⟩, ⟨#[98]⟩, ⟨#[99]⟩], 2), ([⟨#[98]⟩, ⟨#[97]⟩, ⟨#[99]⟩], 2), ([⟨#[98]⟩, ⟨#[99]⟩, ⟨#[97]⟩], 2)] [([⟨#[97]⟩, ⟨#[98]⟩, ⟨#[99]⟩], 2), ([⟨#[98]⟩, ⟨#[97]⟩, ⟨#[99]⟩], 2), ([⟨#[98]⟩, ⟨#[99]⟩, ⟨#[97]⟩], 2)] = some [([⟨#[97]⟩, ⟨#[98]⟩, ⟨#[99]⟩], 2), ([⟨#[98]⟩, ⟨#[97]⟩, ⟨#[99]⟩], 2), ([⟨#[98]⟩, ⟨#[99]⟩, ⟨#[97]⟩], 2)] := by
    rw [trace_Or_s _ _ (by simp) hsh hsh]
    congr 1
    refine (canon_srt ordT (hsr 2) fun x => ?_).symm
    simp only [List.mem_append, or_self]
  have hh1 := trace_Has_s [([⟨#[97]⟩, ⟨#[98]⟩, ⟨#[99]⟩], 2), ([⟨#[98]⟩, ⟨#[97]⟩, ⟨#[99]⟩], 2), ([⟨#[98]⟩, ⟨#[99]⟩, ⟨#[97]⟩], 2)] ([⟨#[98]⟩, ⟨#[99]⟩, ⟨#[97]⟩], 2) (by simp) hsh
  have hh2 := trace_Has_s [([⟨#[97]⟩, ⟨#[98]⟩, ⟨#[99]⟩], 2), ([⟨#[98]⟩, ⟨#[97]⟩, ⟨#[99]⟩], 2), ([⟨#[98]⟩, ⟨#[99]⟩, ⟨#[97]⟩], 2)] ([⟨#[97]⟩], 1) (by simp) hsh
  rw [decide_eq_true (by simp)] at hh1
  rw [decide_eq_false (by simp)] at hh2
  rw [law02_alive_eq]
  have i1 : ix [(([⟨#[97]⟩, ⟨#[98]⟩, ⟨#[99]⟩] : List ByteArray), (2 : Int)), ([⟨#[98]⟩, ⟨#[97]⟩, ⟨#[99]⟩], 2), ([⟨#[98]⟩, ⟨#[99]⟩, ⟨#[97]⟩], 2)] 1 = ([⟨#[98]⟩, ⟨#[97]⟩, ⟨#[99]⟩], 2) := rfl
  have i2 : ix [(([⟨#[97]⟩, ⟨#[98]⟩, ⟨#[99]⟩] : List ByteArray), (2 : Int)), ([⟨#[98]⟩, ⟨#[97]⟩, ⟨#[99]⟩], 2), ([⟨#[98]⟩, ⟨#[99]⟩, ⟨#[97]⟩], 2)] 2 = ([⟨#[98]⟩, ⟨#[99]⟩, ⟨#[97]⟩], 2) := rfl
  simp only [hp, ht1, ht2, Option.bind_some, hx1, hx2, hm, str_eq, decide_true, cond_true, hc, i1, i2, hx3, hset, hor, hh1, hh2]
  rfl

/-! ### the laws -/
theorem law02_TraceOrder_true [Dfr] [HasMix] (a b : Tc) (ha : wfT a) (hb : wfT b) : law02_TraceOrder a b = some true := by
  have la := ha.len
  have lb := hb.len
  rw [law02_TraceOrder_eq]
  rw [law02_few_s [a, b] (by simp) (fun t ht => by simp at ht; rcases ht with rfl | rfl <;> assumption), Option.bind_some]
  simp only [law02_alive_s, Option.bind_some, trace_Compare_s a b (by omega), trace_Compare_s b a (by omega), cond_true, law02_TraceOrder_1_eq, ref02_Compare_s a b (by omega) (by omega)]
  rw [ordT.sw a b]
  cases decide ([a, b].length ≤ 100 ∧ sumA [a, b] ≤ 1000)
  · rfl
  · cases cmpT a b <;> rfl

theorem law02_TraceSets_true [Dfr] [HasMix] (a b : List Tc) (t : Tc) (ha : wfTs a) (hb : wfTs b) (ht : wfT t) : law02_TraceSets a b t = some true := by
  have fa := law02_few_s a ha.1 fun x hx => (ha.2 x hx).len
  have fb := law02_few_s b hb.1 fun x hx => (hb.2 x hx).len
  have ft := law02_few_s [t] (by simp) (fun x hx => by rw [List.mem_singleton] at hx; rw [hx]; exact ht.len)
  rw [law02_TraceSets_eq]
  simp only [fa, fb, ft, Option.bind_some, law02_alive_s]
  by_cases h1 : a.length ≤ 100 ∧ sumA a ≤ 1000
  · rw [decide_eq_true h1]
    by_cases h2 : b.length ≤ 100 ∧ sumA b ≤ 1000
    · rw [decide_eq_true h2]
      by_cases h3 : [t].length ≤ 100 ∧ sumA [t] ≤ 1000
      · rw [decide_eq_true h3]
        have sa := ha.short
        have sb := hb.short
        have lc := length_canon_le (c := cmpT) a
        have lab := length_canon_le (c := cmpT) (a ++ b)
        rw [List.length_append] at lab
        have sab : shortT (a ++ b) := fun x hx => by rcases List.mem_append.1 hx with h | h; exact sa x h; exact sb x h
        have htl := ht.len
        simp only [Bool.not_true, cond_false, cond_true, law02_News_s a (by omega), law02_News_s b (by omega), Option.bind_some, trace_Set_s a (by omega) sa, trace_Or_s a b (by omega) sa sb, law02_Olds_s (canon cmpT a) (by omega), law02_Olds_s (canon cmpT (a ++ b)) (by omega),
          ref02_Set_s _ a (Nat.le_refl _) (by omega) sa, ref02_Or_s a b (by omega) (by omega) sa sb, ref02_Same_s (canon cmpT a) (canon cmpT a) (by omega) (short_canon sa) (short_canon sa), ref02_Same_s (canon cmpT (a ++ b)) (canon cmpT (a ++ b)) (by omega) (short_canon sab) (short_canon sab), decide_true,
          trace_Has_s a t (by omega) sa, ref02_Has_s a t (by omega) sa (by omega), beq_self_eq_true, law02_Olds_s a (by omega), law02_Olds_s b (by omega), ref02_Same_s a a (by omega) sa sa, ref02_Same_s b b (by omega) sb sb]
      · rw [decide_eq_false h3]; rfl
    · rw [decide_eq_false h2]; rfl
  · rw [decide_eq_false h1]; rfl

theorem law02_TraceMix_l0s [Dfr] (a b : List ByteArray) (hab : a.length + b.length ≤ 9) (z : Bool) (xs : List (List ByteArray)) (hx : xs.length ≤ 1000000000) (hm : ∀ x ∈ xs, Mx a b x) : ∀ (r : List (List ByteArray)) (i : Nat), xs.drop i = r → law02_TraceMix_l0 a b z xs (xs.length : Int) (i : Int) = some (0, z)
  | [], i, h => by
    obtain ⟨h1, h2⟩ := drop_nil h
    rw [law02_TraceMix_l0_eq]
    simp only [h2, cond_false]
  | x :: r, i, h => by
    obtain ⟨h1, h2, h3, h4, h5, h6⟩ := drop_cons h
    have mx := hm x (List.mem_of_mem_drop (by rw [h]; exact List.mem_cons_self ..))
    have hl := mx.len
    have hw : w64 ((a.length : Int) + (b.length : Int)) = ((a.length + b.length : Nat) : Int) := by rw [w64_id (by omega) (by omega)]; omega
    have hne : ((x.length : Int) != ((a.length + b.length : Nat) : Int)) = false := by rw [hl]; simp
    rw [law02_TraceMix_l0_eq]
    simp only [h2, h3, h4, hw, hne, cond_true, cond_false, law02_within_sub a x (by omega) (by omega) mx.sub, law02_within_sub b x (by omega) (by omega) mx.symm.sub, Option.bind_some, Bool.not_true, w_succ (show i < 9223372036854775807 by omega), law02_TraceMix_l0s a b hab z xs hx hm r (i + 1) h5]

theorem ref02_Mix_l0s [Dfr] (xs : List Tc) (hx : xs.length ≤ 1000000000) : ∀ (r : List Tc) (i : Nat) (acc : List (List ByteArray)), xs.drop i = r → acc.length ≤ i → ref02_Mix_l0 acc xs (i : Int) = some (0, acc ++ r.map (·.1))
  | [], i, acc, h, ha => by
    obtain ⟨h1, h2⟩ := drop_nil h
    rw [ref02_Mix_l0_eq]
    simp only [h2, cond_false, List.map_nil, List.append_nil]
  | x :: r, i, acc, h, ha => by
    obtain ⟨h1, h2, h3, h4, h5, h6⟩ := drop_cons h
    rw [ref02_Mix_l0_eq]
    simp only [h2, h3, h4, cond_true, room (show (acc.length + 1) * 24 ≤ 140737488355328 by omega), w_succ (show i < 9223372036854775807 by omega), ref02_Mix_l0s xs hx r (i + 1) (acc ++ [x.1]) h5 (by simp; omega), List.map_cons, List.append_assoc, List.singleton_append]

theorem ref02_Mix_s [Dfr] (a b : List ByteArray) (h : a.length + b.length ≤ 19) : ref02_Mix a b = some (mixS a b) := by
  have hl := length_mixS_le h
  have e := ref02_Mix_l0s (parE (bs 1 1) a b) (by unfold parE; rw [List.length_map]; omega) _ 0 [] rfl (by simp)
  rw [Int.natCast_zero] at e
  rw [ref02_Mix_eq, ref02_Par_s (a, 1) (b, 1) h, Option.bind_some, e]
  have hm : ∀ l : List (List ByteArray), (l.map fun x => (x, bs 1 1)).map (·.1) = l := fun l => by
    rw [List.map_map]; exact List.map_id l
  show some ([] ++ List.map (fun x : Tc => x.1) (List.drop 0 (parE (bs 1 1) a b))) = _
  unfold parE
  rw [List.drop_zero, hm, List.nil_append]

theorem law02_TraceMix_true [Dfr] [HasMix] (a b : List ByteArray) (ha : a.length ≤ reachBytes ∧ ∀ x ∈ a, x.size ≤ reachBytes) (hb : b.length ≤ reachBytes ∧ ∀ x ∈ b, x.size ≤ reachBytes) : law02_TraceMix a b = some true := by
  have la : a.length ≤ 140737488351232 := ha.1
  have lb : b.length ≤ 140737488351232 := hb.1
  have hw : w64 ((a.length : Int) + (b.length : Int)) = ((a.length + b.length : Nat) : Int) := by rw [w64_id (by omega) (by omega)]; omega
  rw [law02_TraceMix_eq, hw]
  by_cases h : a.length + b.length ≤ 9
  · have e := law02_TraceMix_l0s a b h false (mixS a b) (by have := length_mixS_le h; omega) (fun x hx => mem_mixS.1 hx) (mixS a b) 0 rfl
    rw [Int.natCast_zero] at e
    have hl := length_mixS_le h
    have hs : ∀ l ∈ mixS a b, l.length ≤ 1000000000 := fun l hl => by have := (mem_mixS.1 hl).len; omega
    simp only [decide_eq_false (show ¬ ((a.length + b.length : Nat) : Int) > 9 by omega), cond_false, trace_Mix_s a b (by omega), trace_Mix_s b a (by omega), ref02_Mix_s a b (by omega), Option.bind_some, ← mixS_comm a b, law02_rows_self (mixS a b) (by omega) hs, Bool.not_true, e, law02_alive_s]
    rfl
  · simp only [decide_eq_true (show ((a.length + b.length : Nat) : Int) > 9 by omega), cond_true, law02_alive_s, Option.bind_some]

theorem law02_TracePar_true [Dfr] [HasMix] (a b : Tc) (ha : wfT a) (hb : wfT b) : law02_TracePar a b = some true := by
  have la := ha.len
  have lb := hb.len
  have hw : w64 ((a.1.length : Int) + (b.1.length : Int)) = ((a.1.length + b.1.length : Nat) : Int) := by rw [w64_id (by omega) (by omega)]; omega
  rw [law02_TracePar_eq, hw]
  by_cases h : a.1.length + b.1.length ≤ 9
  · have hl := length_mixS_le h
    have hp : (parE (bs a.2 b.2) a.1 b.1).length ≤ 512 := by unfold parE; rw [List.length_map]; exact hl
    have hs : shortT (parE (bs a.2 b.2) a.1 b.1) := fun x hx => by have := (mem_parE.1 hx).1.len; omega
    have hc : parE (bs b.2 a.2) b.1 a.1 = parE (bs a.2 b.2) a.1 b.1 := by unfold parE; rw [mixS_comm, bs_comm]
    simp only [decide_eq_false (show ¬ ((a.1.length + b.1.length : Nat) : Int) > 9 by omega), cond_false, trace_Par_s a b (by omega), trace_Par_s b a (by omega), Option.bind_some, hc, law02_alive_s, cond_true, law02_Olds_s _ (show (parE (bs a.2 b.2) a.1 b.1).length ≤ 1000000000 by omega), ref02_Par_s a b (by omega), ref02_Same_s _ _ (show (parE (bs a.2 b.2) a.1 b.1).length ≤ 4611686018427387904 by omega) hs hs, decide_true]
  · simp only [decide_eq_true (show ((a.1.length + b.1.length : Nat) : Int) > 9 by omega), cond_true, law02_alive_s, Option.bind_some]

theorem sizeB_le [Dfr] : ∀ {l : List ByteArray}, (∀ x ∈ l, x.size ≤ 140737488351232) → sizeB l ≤ l.length * 140737488351233
  | [], _ => by simp [sizeB]
  | x :: r, h => by
    have h1 := h x (List.mem_cons_self ..)
    have h2 := sizeB_le fun t ht => h t (List.mem_cons_of_mem _ ht)
    simp only [sizeB, List.length_cons]; omega

theorem law02_TraceTexts_true [Dfr] [HasMix] (t : Tc) (ht : wfT t) : law02_TraceTexts t = some true := by
  have lt := ht.len
  rw [law02_TraceTexts_eq, law02_few_s [t] (by simp) (fun x hx => by rw [List.mem_singleton] at hx; rw [hx]; exact lt), Option.bind_some]
  simp only [law02_alive_s, Option.bind_some, cond_true]
  by_cases h : [t].length ≤ 100 ∧ sumA [t] ≤ 1000
  · rw [decide_eq_true h]
    have h2 : t.1.length ≤ 1000 := by have := h.2; simp only [sumA] at this; omega
    have h3 := sizeB_le ht.1.2
    obtain ⟨s, z, e1, e2, _, _⟩ := texts_s t (by omega) (by omega)
    simp only [Bool.not_true, cond_false, e1, e2, Option.bind_some, beq_self_eq_true]
  · rw [decide_eq_false h]; rfl

end Go.Proofs.Ytmpdpboamnpnfaa.Sv
