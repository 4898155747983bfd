/- What follows of meanings. Plain Lean, no program in sight. -/
import Derived.Test.YthhefjmdfdckjaaGreatDoorM9
namespace Go.Rd
open Go Go.Sv
set_option linter.unusedVariables false
set_option linter.unusedSimpArgs false

theorem thenT_assoc3 (p q r : Tc) : thenT (thenT p q) r = thenT p (thenT q r) := by
  by_cases h1 : p.2 = 1
  · have e1 : thenT p q = (p.1 ++ q.1, q.2) := by unfold thenT; rw [if_pos h1]
    rw [e1]
    by_cases h2 : q.2 = 1
    · simp only [thenT, h1, h2, if_true, List.append_assoc]
    · simp only [thenT, h1, h2, if_true, if_false]
  · simp only [thenT, h1, if_false]

theorem thenT_one (q : Tc) : thenT ([], 1) q = q := by simp [thenT]

theorem thenT_skip (p : Tc) : thenT p ([], 1) = p := by
  unfold thenT
  split
  · rename_i h; exact Prod.ext (by simp) h.symm
  · rfl

theorem handF_assoc (p q r : Tc) : handF (handF p q) r = handF p (handF q r) := by
  by_cases h1 : p.2 = 2
  · have e1 : handF p q = (p.1 ++ q.1, q.2) := by unfold handF; rw [if_pos h1]; rfl
    rw [e1]
    by_cases h2 : q.2 = 2
    · simp only [handF, behT, h1, h2, if_true, List.append_assoc]
    · simp only [handF, behT, h1, h2, if_true, if_false]
  · simp only [handF, h1, if_false]

theorem handF_throw (p : Tc) : handF p ([], 2) = p := by
  unfold handF behT
  split
  · rename_i h; exact Prod.ext (by simp) h.symm
  · rfl

theorem bs_zero (c : Int) : bs 0 c = 0 := by
  unfold bs
  rw [show signB 0 = false from rfl]; rfl

theorem bs_sg {a b : Int} (h : signB a = false ∨ signB b = false) : bs a b = 0 := by
  unfold bs
  rcases h with h | h <;> rw [h] <;> simp

theorem bs_assoc (a b c : Int) : bs (bs a b) c = bs a (bs b c) := by
  cases ha : signB a with
  | false => rw [bs_sg (.inl ha), bs_zero, bs_sg (.inl ha)]
  | true =>
    cases hb : signB b with
    | false => rw [bs_sg (.inr hb), bs_sg (a := b) (.inl hb), bs_zero, bs_comm a 0, bs_zero]
    | true =>
      cases hc : signB c with
      | false => rw [bs_sg (b := c) (.inr hc), bs_sg (b := c) (.inr hc), bs_comm a 0, bs_zero]
      | true =>
        rcases signB_iff.1 ha with rfl | rfl | rfl <;> rcases signB_iff.1 hb with rfl | rfl | rfl <;> rcases signB_iff.1 hc with rfl | rfl | rfl <;> rfl

theorem bs_one {a : Int} (h : signB a = true) : bs a 1 = a ∧ bs 1 a = a := by
  rcases signB_iff.1 h with rfl | rfl | rfl <;> exact ⟨rfl, rfl⟩

theorem Mx.assoc {α : Type} {p q u r x : List α} (h : Mx p q u) (k : Mx u r x) : ∃ v, Mx q r v ∧ Mx p v x := by
  induction k generalizing p q with
  | nil =>
    cases h
    exact ⟨[], .nil, .nil⟩
  | l _ ih =>
    cases h with
    | l h =>
      obtain ⟨v, h1, h2⟩ := ih h
      exact ⟨v, h1, .l h2⟩
    | r h =>
      obtain ⟨v, h1, h2⟩ := ih h
      exact ⟨_ :: v, .l h1, .r h2⟩
  | r _ ih =>
    obtain ⟨v, h1, h2⟩ := ih h
    exact ⟨_ :: v, .r h1, .r h2⟩

theorem Mx.assoc' {α : Type} {p q v r x : List α} (h : Mx q r v) (k : Mx p v x) : ∃ u, Mx p q u ∧ Mx u r x := by
  obtain ⟨u, h1, h2⟩ := Mx.assoc h.symm k.symm
  exact ⟨u, h1.symm, h2.symm⟩

namespace Tm
theorem tr_seq3 (a b c : Tm) : (seq (seq a b) c).tr = (seq a (seq b c)).tr := tr_ext fun x => by
  rw [mem_tr_seq, mem_tr_seq]
  constructor
  · rintro ⟨u, hu, r, hr, rfl⟩
    obtain ⟨p, hp, q, hq, rfl⟩ := mem_tr_seq.1 hu
    exact ⟨p, hp, _, mem_tr_seq.2 ⟨q, hq, r, hr, rfl⟩, thenT_assoc3 p q r⟩
  · rintro ⟨p, hp, u, hu, rfl⟩
    obtain ⟨q, hq, r, hr, rfl⟩ := mem_tr_seq.1 hu
    exact ⟨_, mem_tr_seq.2 ⟨p, hp, q, hq, rfl⟩, r, hr, (thenT_assoc3 p q r).symm⟩

theorem tr_alt3 (a b c : Tm) : (alt (alt a b) c).tr = (alt a (alt b c)).tr := tr_ext fun x => by
  rw [mem_tr_alt, mem_tr_alt, mem_tr_alt, mem_tr_alt, or_assoc]

theorem tr_alt2 (a b : Tm) : (alt a b).tr = (alt b a).tr := tr_ext fun x => by rw [mem_tr_alt, mem_tr_alt, or_comm]

theorem tr_alt1 (a : Tm) : (alt a a).tr = a.tr := tr_ext fun x => by rw [mem_tr_alt, or_self]

theorem tr_par3 (a b c : Tm) : (par (par a b) c).tr = (par a (par b c)).tr := tr_ext fun x => by
  rw [mem_tr_par, mem_tr_par]
  constructor
  · rintro ⟨u, hu, r, hr, hx, hs⟩
    obtain ⟨p, hp, q, hq, h1, h2⟩ := mem_tr_par.1 hu
    obtain ⟨v, k1, k2⟩ := Mx.assoc h1 hx
    exact ⟨p, hp, (v, bs q.2 r.2), mem_tr_par.2 ⟨q, hq, r, hr, k1, rfl⟩, k2, by rw [hs, h2, bs_assoc]⟩
  · rintro ⟨p, hp, u, hu, hx, hs⟩
    obtain ⟨q, hq, r, hr, h1, h2⟩ := mem_tr_par.1 hu
    obtain ⟨v, k1, k2⟩ := Mx.assoc' h1 hx
    exact ⟨(v, bs p.2 q.2), mem_tr_par.2 ⟨p, hp, q, hq, k1, rfl⟩, r, hr, k2, by rw [hs, h2, bs_assoc]⟩

theorem tr_par2 (a b : Tm) : (par a b).tr = (par b a).tr := tr_ext fun x => by
  rw [mem_tr_par, mem_tr_par]
  constructor
  · rintro ⟨p, hp, q, hq, h1, h2⟩
    exact ⟨q, hq, p, hp, h1.symm, by rw [h2, bs_comm]⟩
  · rintro ⟨p, hp, q, hq, h1, h2⟩
    exact ⟨q, hq, p, hp, h1.symm, by rw [h2, bs_comm]⟩

theorem tr_hand3 (a b c : Tm) : (hand (hand a b) c).tr = (hand a (hand b c)).tr := tr_ext fun x => by
  rw [mem_tr_hand, mem_tr_hand]
  constructor
  · rintro ⟨u, hu, r, hr, rfl⟩
    obtain ⟨p, hp, q, hq, rfl⟩ := mem_tr_hand.1 hu
    exact ⟨p, hp, _, mem_tr_hand.2 ⟨q, hq, r, hr, rfl⟩, handF_assoc p q r⟩
  · rintro ⟨p, hp, u, hu, rfl⟩
    obtain ⟨q, hq, r, hr, rfl⟩ := mem_tr_hand.1 hu
    exact ⟨_, mem_tr_hand.2 ⟨p, hp, q, hq, rfl⟩, r, hr, (handF_assoc p q r).symm⟩

theorem tr_hand_throw (a : Tm) : (hand a throw).tr = a.tr := tr_ext fun x => by
  rw [mem_tr_hand]
  constructor
  · rintro ⟨p, hp, q, hq, rfl⟩
    rw [mem_tr_throw.1 hq, handF_throw]; exact hp
  · exact fun h => ⟨x, h, _, mem_tr_throw.2 rfl, (handF_throw x).symm⟩

theorem tr_throw_hand (a : Tm) : (hand throw a).tr = a.tr := tr_ext fun x => by
  rw [mem_tr_hand]
  constructor
  · rintro ⟨p, hp, q, hq, rfl⟩
    rw [mem_tr_throw.1 hp]
    exact hq
  · exact fun h => ⟨_, mem_tr_throw.2 rfl, x, h, rfl⟩

theorem tr_skip_seq (a : Tm) : (seq skip a).tr = a.tr := tr_ext fun x => by
  rw [mem_tr_seq]
  constructor
  · rintro ⟨p, hp, q, hq, rfl⟩
    rw [mem_tr_skip.1 hp, thenT_one]; exact hq
  · exact fun h => ⟨_, mem_tr_skip.2 rfl, x, h, (thenT_one x).symm⟩

theorem tr_seq_skip (a : Tm) : (seq a skip).tr = a.tr := tr_ext fun x => by
  rw [mem_tr_seq]
  constructor
  · rintro ⟨p, hp, q, hq, rfl⟩
    rw [mem_tr_skip.1 hq, thenT_skip]; exact hp
  · exact fun h => ⟨x, h, _, mem_tr_skip.2 rfl, (thenT_skip x).symm⟩

theorem tr_par_skip {a : Tm} (hf : a.fine) : (par a skip).tr = a.tr := tr_ext fun x => by
  rw [mem_tr_par]
  constructor
  · rintro ⟨p, hp, q, hq, h1, h2⟩
    rw [mem_tr_skip.1 hq] at h1 h2
    have hs := (ends_tr a hf).1 p hp
    rw [show x = p from Prod.ext h1.nil_r (h2.trans (bs_one hs).1)]
    exact hp
  · intro h
    have hs := (ends_tr a hf).1 x h
    exact ⟨x, h, _, mem_tr_skip.2 rfl, Mx.left _, (bs_one hs).1.symm⟩

theorem tr_throw_seq {a : Tm} (h : ∃ x, x ∈ a.tr) : (seq throw a).tr = [([], 2)] := by
  refine srt_ext ordT (srt_tr _) ?_ fun x => ?_
  · simp only [srt_cons, List.not_mem_nil, false_imp_iff, implies_true, Srt.nil, and_true]
  · rw [mem_tr_seq, List.mem_singleton]
    constructor
    · rintro ⟨p, hp, q, hq, rfl⟩
      rw [mem_tr_throw.1 hp]; rfl
    · rintro rfl
      obtain ⟨q, hq⟩ := h
      exact ⟨_, mem_tr_throw.2 rfl, q, hq, rfl⟩

theorem tr_block_pair {a b : Tm} (hf : a.fine) (hb : ∃ x, x ∈ b.tr) : (block (pair a b)).tr = canon cmpT ((a.tr.filter fun p => decide (p.2 ≠ 3)).map fun p => (p.1, 1)) := by
  refine canon_srt ordT (srt_tr _) fun x => ?_
  rw [mem_tr_block, List.mem_map]
  constructor
  · rintro ⟨z, hz, h⟩
    rcases mem_pq_pair.1 hz with ⟨p, hp, q, hq, rfl⟩ | rfl
    · rcases h with ⟨h1, e⟩ | ⟨h1, e⟩
      · have h1 : p.2 = 1 := h1
        refine ⟨p, List.mem_filter.2 ⟨hp, by simp [h1]⟩, ?_⟩
        rw [e]
        exact Prod.ext rfl h1.symm
      · have h1 : p.2 = 2 := h1
        refine ⟨p, List.mem_filter.2 ⟨hp, by simp [h1]⟩, ?_⟩
        rw [e]
        unfold behT goF
        simp [h1]
    · rcases h with ⟨h1, _⟩ | ⟨h1, _⟩ <;> exact absurd h1 (by decide)
  · rintro ⟨p, hp, rfl⟩
    obtain ⟨hp, h3⟩ := List.mem_filter.1 hp
    have h3 : p.2 ≠ 3 := of_decide_eq_true h3
    obtain ⟨q, hq⟩ := hb
    refine ⟨goF p q, mem_pq_pair.2 (.inl ⟨p, hp, q, hq, rfl⟩), ?_⟩
    rcases signB_iff.1 ((ends_tr a hf).1 p hp) with h | h | h
    · exact .inl ⟨h, Prod.ext rfl h.symm⟩
    · refine .inr ⟨h, ?_⟩
      unfold behT goF
      simp [h]
    · exact absurd h h3

/-- How often a term has an action. -/
theorem nm_count (s : ByteArray) : ∀ m : Tm, wsum (fun x => if x = s then 1 else 0) m.nm = m.row.countP fun n => decide (n = (1, s, 0))
  | act t => by
    show (if t = s then 1 else 0) + 0 = [((1, t, 0) : Nd)].countP _
    rw [List.countP_singleton]
    by_cases h : t = s
    · subst h; simp
    · simp [h]
  | skip | throw | yield => by
    rw [show wsum _ _ = 0 from rfl]
    exact (List.countP_eq_zero.2 fun n hn => by rw [List.mem_singleton.1 hn]; simp).symm
  | over _ => by
    rw [show wsum _ _ = 0 from rfl]
    exact (List.countP_eq_zero.2 fun n hn => by rw [List.mem_singleton.1 hn]; simp).symm
  | seq a b => by rw [nm, wsum_append, nm_count s a, nm_count s b, row_seq, List.countP_cons_of_neg (by simp), List.countP_append]
  | alt a b => by rw [nm, wsum_append, nm_count s a, nm_count s b, row_alt, List.countP_cons_of_neg (by simp), List.countP_append]
  | par a b => by rw [nm, wsum_append, nm_count s a, nm_count s b, row_par, List.countP_cons_of_neg (by simp), List.countP_append]
  | hand a b => by rw [nm, wsum_append, nm_count s a, nm_count s b, row_hand, List.countP_cons_of_neg (by simp), List.countP_append]
  | pair a b => by rw [nm, wsum_append, nm_count s a, nm_count s b, row_pair, List.countP_cons_of_neg (by simp), List.countP_append]
  | going a b => by rw [nm, wsum_append, nm_count s a, nm_count s b, row_going, List.countP_cons_of_neg (by simp), List.countP_append]
  | stack a b => by rw [nm, wsum_append, nm_count s a, nm_count s b, row_stack, List.countP_cons_of_neg (by simp), List.countP_append]
  | block a => by rw [nm, nm_count s a, row_block, List.countP_cons_of_neg (by simp)]
  | fin z a => by rw [nm, nm_count s a, row_fin, List.countP_cons_of_neg (by simp)]

theorem wsum_count (s : ByteArray) (l : List ByteArray) : wsum (fun x => if x = s then 1 else 0) l = l.countP fun x => decide (s = x) := by
  induction l with
  | nil => rfl
  | cons x l ih =>
    rw [List.countP_cons, ← ih]
    show (if x = s then 1 else 0) + wsum _ l = _
    by_cases h : x = s
    · subst h; simp [Nat.add_comm]
    · rw [if_neg h, if_neg (by simpa using fun e => h e.symm)]; omega

theorem count_tr {m : Tm} {x : Tc} (h : x ∈ m.tr) (s : ByteArray) : (x.1.countP fun y => decide (s = y)) ≤ m.row.countP fun n => decide (n = (1, s, 0)) := by
  have := (wsum_tr (f := fun x => if x = s then 1 else 0) m).1 x h
  rwa [wsum_count, nm_count] at this
end Tm
end Go.Rd
