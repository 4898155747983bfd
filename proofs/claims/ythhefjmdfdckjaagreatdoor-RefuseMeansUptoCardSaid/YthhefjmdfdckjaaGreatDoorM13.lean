/- What is settled means what it meant; what may be refused; what will end by a throw. Plain Lean, no program in sight. -/
import Derived.Test.YthhefjmdfdckjaaGreatDoorM10
import Derived.Test.YthhefjmdfdckjaaGreatDoorM5
import Derived.Test.YthhefjmdfdckjaaGreatDoorM8
namespace Go.Rd
open Go Go.Sv
set_option linter.unusedVariables false
set_option linter.unusedSimpArgs false
namespace Tm

/-! ### of what is made of parts that mean the same -/
theorem tr_seq_congr {a a' b b' : Tm} (h : a.tr = a'.tr) (k : b.tr = b'.tr) : (seq a b).tr = (seq a' b').tr := tr_ext fun x => by rw [mem_tr_seq, mem_tr_seq, h, k]

theorem tr_hand_congr {a a' b b' : Tm} (h : a.tr = a'.tr) (k : b.tr = b'.tr) : (hand a b).tr = (hand a' b').tr := tr_ext fun x => by rw [mem_tr_hand, mem_tr_hand, h, k]

theorem tr_par_congr {a a' b b' : Tm} (h : a.tr = a'.tr) (k : b.tr = b'.tr) : (par a b).tr = (par a' b').tr := tr_ext fun x => by rw [mem_tr_par, mem_tr_par, h, k]

theorem tr_alt_congr {a a' b b' : Tm} (h : a.tr = a'.tr) (k : b.tr = b'.tr) : (alt a b).tr = (alt a' b').tr := tr_ext fun x => by rw [mem_tr_alt, mem_tr_alt, h, k]

theorem tr_block_congr {a a' : Tm} (h : a.pq = a'.pq) : (block a).tr = (block a').tr := tr_ext fun x => by rw [mem_tr_block, mem_tr_block, h]

theorem pq_seq_congr {a a' b b' : Tm} (h : a.pq = a'.pq) (k : b.pq = b'.pq) : (seq a b).pq = (seq a' b').pq := pq_ext fun x => by rw [mem_pq_seq, mem_pq_seq, h, k]

theorem pq_par_congr {a a' b b' : Tm} (h : a.pq = a'.pq) (k : b.pq = b'.pq) : (par a b).pq = (par a' b').pq := pq_ext fun x => by rw [mem_pq_par, mem_pq_par, h, k]

theorem pq_alt_congr {a a' b b' : Tm} (h : a.pq = a'.pq) (k : b.pq = b'.pq) : (alt a b).pq = (alt a' b').pq := pq_ext fun x => by rw [mem_pq_alt, mem_pq_alt, h, k]

theorem pq_stack_congr {a a' c c' : Tm} (h : a.pq = a'.pq) (k : c.tr = c'.tr) : (stack a c).pq = (stack a' c').pq := pq_ext fun x => by rw [mem_pq_stack, mem_pq_stack, h, k]

theorem pq_going_congr {a a' b b' : Tm} (h : a.tr = a'.tr) (k : b.tr = b'.tr) : (going a b).pq = (going a' b').pq := pq_ext fun x => by rw [mem_pq_going, mem_pq_going, h, k]

theorem pq_pair_congr {a a' b b' : Tm} (h : a.tr = a'.tr) (k : b.tr = b'.tr) : (pair a b).pq = (pair a' b').pq := pq_ext fun x => by rw [mem_pq_pair, mem_pq_pair, h, k]

theorem pq_fin_congr {s : Int} {c c' : Tm} (k : c.tr = c'.tr) : (fin s c).pq = (fin s c').pq := pq_ext fun x => by rw [mem_pq_fin, mem_pq_fin, k]

/-! ### what is settled -/
theorem pq_stack' (x c : Tm) : (stack' x c).pq = (stack x c).pq := by
  cases x with
  | fin s d =>
    refine pq_ext fun z => ?_
    show z ∈ (fin s (seq d c)).pq ↔ _
    rw [mem_pq_fin, mem_pq_stack]
    constructor
    · rintro ⟨q, hq, rfl⟩
      obtain ⟨u, hu, v, hv, rfl⟩ := mem_tr_seq.1 hq
      exact ⟨_, mem_pq_fin.2 ⟨u, hu, rfl⟩, v, hv, rfl⟩
    · rintro ⟨p, hp, q, hq, rfl⟩
      obtain ⟨u, hu, rfl⟩ := mem_pq_fin.1 hp
      exact ⟨_, mem_tr_seq.2 ⟨u, hu, q, hq, rfl⟩, rfl⟩
  | _ => rfl

theorem tr_par' (x y : Tm) (hx : x.po = true) (hy : y.po = true) : (par' x y).tr = (par x y).tr := by
  rcases par'_cases x y with ⟨s, z, rfl, rfl, e⟩ | ⟨s, c, z, d, rfl, rfl, e⟩ | e
  · rw [e]
    refine tr_ext fun w => ?_
    rw [mem_tr_over, mem_tr_par]
    constructor
    · rintro rfl
      exact ⟨_, mem_tr_over.2 rfl, _, mem_tr_over.2 rfl, .nil, rfl⟩
    · rintro ⟨p, hp, q, hq, h1, h2⟩
      rw [mem_tr_over.1 hp, mem_tr_over.1 hq] at h1 h2
      exact Prod.ext h1.nil_l h2
  · simp [po] at hx
  · rw [e]

theorem pq_par' (x y : Tm) (hx : x.qo = true) (hy : y.qo = true) : (par' x y).pq = (par x y).pq := by
  rcases par'_cases x y with ⟨s, z, rfl, rfl, e⟩ | ⟨s, c, z, d, rfl, rfl, e⟩ | e
  · simp [qo] at hx
  · rw [e]
    refine pq_ext fun w => ?_
    rw [mem_pq_fin, mem_pq_par]
    constructor
    · rintro ⟨q, hq, rfl⟩
      obtain ⟨u, hu, v, hv, h1, h2⟩ := mem_tr_par.1 hq
      exact ⟨_, mem_pq_fin.2 ⟨u, hu, rfl⟩, _, mem_pq_fin.2 ⟨v, hv, rfl⟩, ⟨.nil, rfl⟩, h1, h2⟩
    · rintro ⟨p, hp, q, hq, ⟨h1, h2⟩, h3, h4⟩
      obtain ⟨u, hu, rfl⟩ := mem_pq_fin.1 hp
      obtain ⟨v, hv, rfl⟩ := mem_pq_fin.1 hq
      exact ⟨w.2, mem_tr_par.2 ⟨u, hu, v, hv, h3, h4⟩, Prod.ext (Prod.ext h1.nil_l h2) rfl⟩
  · rw [e]

theorem tr_over_seq {s : Int} {b : Tm} (hs : s ≠ 1) (hb : ∃ x, x ∈ b.tr) : (seq (over s) b).tr = (over s).tr := tr_ext fun x => by
  rw [mem_tr_seq, mem_tr_over]
  constructor
  · rintro ⟨p, hp, q, hq, rfl⟩
    rw [mem_tr_over.1 hp]
    unfold thenT
    rw [if_neg hs]
  · rintro rfl
    obtain ⟨q, hq⟩ := hb
    exact ⟨_, mem_tr_over.2 rfl, q, hq, by unfold thenT; rw [if_neg hs]⟩

theorem tr_over_hand {s : Int} {b : Tm} (hs : s ≠ 2) (hb : ∃ x, x ∈ b.tr) : (hand (over s) b).tr = (over s).tr := tr_ext fun x => by
  rw [mem_tr_hand, mem_tr_over]
  constructor
  · rintro ⟨p, hp, q, hq, rfl⟩
    rw [mem_tr_over.1 hp]
    unfold handF
    rw [if_neg hs]
  · rintro rfl
    obtain ⟨q, hq⟩ := hb
    exact ⟨_, mem_tr_over.2 rfl, q, hq, by unfold handF; rw [if_neg hs]⟩

theorem pq_fin_seq {s : Int} {c b : Tm} (hs : s ≠ 1) (hb : ∃ x, x ∈ b.pq) : (seq (fin s c) b).pq = (fin s c).pq := pq_ext fun x => by
  rw [mem_pq_seq]
  constructor
  · rintro ⟨p, hp, q, hq, rfl⟩
    have hp' := hp
    obtain ⟨u, hu, rfl⟩ := mem_pq_fin.1 hp'
    unfold seqF
    rw [if_neg hs]
    exact hp
  · intro hx
    obtain ⟨q, hq⟩ := hb
    refine ⟨x, hx, q, hq, ?_⟩
    obtain ⟨u, hu, rfl⟩ := mem_pq_fin.1 hx
    unfold seqF
    rw [if_neg hs]

theorem pq_fin1_seq {c b : Tm} : (seq (fin 1 c) b).pq = (stack b c).pq := pq_ext fun x => by
  rw [mem_pq_seq, mem_pq_stack]
  constructor
  · rintro ⟨p, hp, q, hq, rfl⟩
    obtain ⟨u, hu, rfl⟩ := mem_pq_fin.1 hp
    refine ⟨q, hq, u, hu, ?_⟩
    unfold seqF
    rw [if_pos rfl, thenT_one]
  · rintro ⟨p, hp, q, hq, rfl⟩
    refine ⟨_, mem_pq_fin.2 ⟨q, hq, rfl⟩, p, hp, ?_⟩
    unfold seqF
    rw [if_pos rfl, thenT_one]

theorem tr_over2_hand (b : Tm) : (hand (over 2) b).tr = b.tr := tr_ext fun x => by
  rw [mem_tr_hand]
  constructor
  · rintro ⟨p, hp, q, hq, rfl⟩
    rw [mem_tr_over.1 hp]; exact hq
  · exact fun h => ⟨_, mem_tr_over.2 rfl, x, h, rfl⟩

theorem tr_over1_seq (b : Tm) : (seq (over 1) b).tr = b.tr := tr_ext fun x => by
  rw [mem_tr_seq]
  constructor
  · rintro ⟨p, hp, q, hq, rfl⟩
    rw [mem_tr_over.1 hp, thenT_one]; exact hq
  · exact fun h => ⟨_, mem_tr_over.2 rfl, x, h, (thenT_one x).symm⟩

theorem st_means : ∀ m : Tm, (m.po = true → m.st.tr = m.tr) ∧ (m.qo = true → m.st.pq = m.pq) := by
  intro m
  induction m using size_ind with
  | h m ih =>
    cases m with
    | act s => rw [st_act]; exact ⟨fun _ => rfl, fun _ => rfl⟩
    | yield => rw [st_yield]; exact ⟨fun _ => rfl, fun _ => rfl⟩
    | skip => rw [st_skip]; exact ⟨fun _ => rfl, fun h => by simp [qo] at h⟩
    | throw => rw [st_throw]; exact ⟨fun _ => rfl, fun h => by simp [qo] at h⟩
    | over s => rw [st_over]; exact ⟨fun _ => rfl, fun _ => rfl⟩
    | alt a b => rw [st_alt]; exact ⟨fun _ => rfl, fun _ => rfl⟩
    | pair a b => rw [st_pair]; exact ⟨fun _ => rfl, fun _ => rfl⟩
    | fin s a => rw [st_fin]; exact ⟨fun _ => rfl, fun _ => rfl⟩
    | hand a b =>
      refine ⟨fun h => ?_, fun h => by simp [qo] at h⟩
      simp only [po, Bool.and_eq_true] at h
      have ha := (ih a (by rw [size_hand]; omega)).1 h.1
      have hb := (ih b (by rw [size_hand]; omega)).1 (po_of_pl h.2)
      have hne := tr_ne h.2
      rw [st_hand, tr_hand_congr (b := b) ha.symm rfl]
      cases hx : a.st with
      | over s =>
        simp only [hand']
        split
        · rename_i h2
          rw [hb, h2, tr_over2_hand]
        · rename_i h2
          rw [tr_over_hand h2 hne]
      | _ => rfl
    | seq a b =>
      refine ⟨fun h => ?_, fun h => ?_⟩
      · simp only [po, Bool.and_eq_true] at h
        have ha := (ih a (by rw [size_seq]; omega)).1 h.1
        have hb := (ih b (by rw [size_seq]; omega)).1 (po_of_pl h.2)
        have hne := tr_ne h.2
        have hpo := st_po h.1
        rw [st_seq, tr_seq_congr (b := b) ha.symm rfl]
        cases hx : a.st with
        | over s =>
          simp only [seq']
          split
          · rename_i h2
            rw [hb, h2, tr_over1_seq]
          · rename_i h2
            rw [tr_over_seq h2 hne]
        | fin s c => rw [hx] at hpo; simp [po] at hpo
        | _ => rfl
      · simp only [qo, Bool.and_eq_true] at h
        have ha := (ih a (by rw [size_seq]; omega)).2 h.1
        have hb := (ih b (by rw [size_seq]; omega)).2 (qo_of_pa h.2)
        have hne := pq_ne h.2
        have hqo := st_qo h.1
        rw [st_seq, pq_seq_congr (b := b) ha.symm rfl]
        cases hx : a.st with
        | over s => rw [hx] at hqo; simp [qo] at hqo
        | fin s c =>
          simp only [seq']
          split
          · rename_i h2
            rw [pq_stack', h2, pq_fin1_seq]
            exact pq_stack_congr hb rfl
          · rename_i h2
            rw [pq_fin_seq h2 hne]
        | _ => rfl
    | stack a c =>
      refine ⟨fun h => by simp [po] at h, fun h => ?_⟩
      simp only [qo, Bool.and_eq_true] at h
      have ha := (ih a (by rw [size_stack]; omega)).2 h.1
      rw [st_stack, pq_stack']
      exact pq_stack_congr ha rfl
    | going a b =>
      refine ⟨fun h => by simp [po] at h, fun h => ?_⟩
      simp only [qo, Bool.and_eq_true] at h
      have ha := (ih a (by rw [size_going]; omega)).1 h.1
      have hne := tr_ne h.2
      rw [st_going, pq_going_congr (b := b) ha.symm rfl]
      cases hx : a.st with
      | over s =>
        simp only [going']
        split
        · rename_i h2
          subst h2
          refine pq_ext fun x => ?_
          rw [mem_pq_fin, mem_pq_going]
          constructor
          · rintro ⟨q, hq, rfl⟩
            exact ⟨_, mem_tr_over.2 rfl, q, hq, rfl⟩
          · rintro ⟨p, hp, q, hq, rfl⟩
            rw [mem_tr_over.1 hp]
            exact ⟨q, hq, rfl⟩
        · rename_i h2
          refine pq_ext fun x => ?_
          rw [mem_pq_fin, mem_pq_going]
          constructor
          · rintro ⟨q, hq, rfl⟩
            obtain ⟨y, hy⟩ := hne
            refine ⟨_, mem_tr_over.2 rfl, y, hy, ?_⟩
            rw [mem_tr_skip.1 hq]
            unfold goF
            rw [if_neg h2]
          · rintro ⟨p, hp, q, hq, rfl⟩
            rw [mem_tr_over.1 hp]
            refine ⟨_, mem_tr_skip.2 rfl, ?_⟩
            unfold goF
            rw [if_neg h2]
      | _ => rfl
    | par a b =>
      refine ⟨fun h => ?_, fun h => ?_⟩
      · simp only [po, Bool.and_eq_true] at h
        have ha := (ih a (by rw [size_par]; omega)).1 h.1
        have hb := (ih b (by rw [size_par]; omega)).1 h.2
        rw [st_par, tr_par' _ _ (st_po h.1) (st_po h.2)]
        exact tr_par_congr ha hb
      · simp only [qo, Bool.and_eq_true] at h
        have ha := (ih a (by rw [size_par]; omega)).2 h.1
        have hb := (ih b (by rw [size_par]; omega)).2 h.2
        rw [st_par, pq_par' _ _ (st_qo h.1) (st_qo h.2)]
        exact pq_par_congr ha hb
    | block a =>
      refine ⟨fun h => ?_, fun h => by simp [qo] at h⟩
      simp only [po] at h
      have ha := (ih a (by rw [size_block]; omega)).2 h
      have hqo := st_qo h
      have hsz := st_size a
      rw [st_block, tr_block_congr ha.symm]
      cases hx : a.st with
      | fin s c =>
        rw [hx] at hqo hsz
        simp only [qo] at hqo
        rw [size_fin] at hsz
        simp only [block']
        split
        · rename_i h1
          subst h1
          refine tr_ext fun x => ?_
          rw [mem_tr_over, mem_tr_block]
          constructor
          · rintro rfl
            obtain ⟨q, hq⟩ := tr_ne hqo
            exact ⟨_, mem_pq_fin.2 ⟨q, hq, rfl⟩, .inl ⟨rfl, rfl⟩⟩
          · rintro ⟨z, hz, h⟩
            obtain ⟨q, hq, rfl⟩ := mem_pq_fin.1 hz
            rcases h with ⟨_, rfl⟩ | ⟨h, _⟩
            · rfl
            · exact absurd (show (1 : Int) = 2 from h) (by decide)
        · split
          · rename_i h1 h2
            subst h2
            rw [(ih c (by rw [size_block]; omega)).1 (po_of_pl hqo)]
            refine tr_ext fun x => ?_
            rw [mem_tr_block]
            constructor
            · exact fun hx => ⟨_, mem_pq_fin.2 ⟨x, hx, rfl⟩, .inr ⟨rfl, rfl⟩⟩
            · rintro ⟨z, hz, h⟩
              obtain ⟨q, hq, rfl⟩ := mem_pq_fin.1 hz
              rcases h with ⟨h, _⟩ | ⟨_, rfl⟩
              · exact absurd (show (2 : Int) = 1 from h) (by decide)
              · exact hq
          · rfl
      | _ => rfl

/-! ### what may be refused -/
theorem rew_more (ns : List ByteArray) : ∀ m : Tm, (∀ x ∈ m.tr, x ∈ (m.rew ns).tr) ∧ (∀ x ∈ m.pq, x ∈ (m.rew ns).pq)
  | act s => by
    rw [rew]
    cases decide (s ∈ ns) with
    | true => exact ⟨fun x hx => mem_tr_alt.2 (.inl hx), fun x hx => mem_pq_alt.2 (.inl hx)⟩
    | false => exact ⟨fun x hx => hx, fun x hx => hx⟩
  | skip | throw | yield | over s => ⟨fun x hx => hx, fun x hx => hx⟩
  | seq a b => ⟨fun x hx => by
      obtain ⟨p, hp, q, hq, rfl⟩ := mem_tr_seq.1 hx
      exact mem_tr_seq.2 ⟨p, (rew_more ns a).1 p hp, q, (rew_more ns b).1 q hq, rfl⟩, fun x hx => by
      obtain ⟨p, hp, q, hq, rfl⟩ := mem_pq_seq.1 hx
      exact mem_pq_seq.2 ⟨p, (rew_more ns a).2 p hp, q, (rew_more ns b).2 q hq, rfl⟩⟩
  | alt a b => ⟨fun x hx => mem_tr_alt.2 ((mem_tr_alt.1 hx).imp ((rew_more ns a).1 x) ((rew_more ns b).1 x)), fun x hx => mem_pq_alt.2 ((mem_pq_alt.1 hx).imp ((rew_more ns a).2 x) ((rew_more ns b).2 x))⟩
  | par a b => ⟨fun x hx => by
      obtain ⟨p, hp, q, hq, h⟩ := mem_tr_par.1 hx
      exact mem_tr_par.2 ⟨p, (rew_more ns a).1 p hp, q, (rew_more ns b).1 q hq, h⟩, fun x hx => by
      obtain ⟨p, hp, q, hq, h⟩ := mem_pq_par.1 hx
      exact mem_pq_par.2 ⟨p, (rew_more ns a).2 p hp, q, (rew_more ns b).2 q hq, h⟩⟩
  | hand a b => ⟨fun x hx => by
      obtain ⟨p, hp, q, hq, rfl⟩ := mem_tr_hand.1 hx
      exact mem_tr_hand.2 ⟨p, (rew_more ns a).1 p hp, q, (rew_more ns b).1 q hq, rfl⟩, fun x hx => by cases hx⟩
  | block a => ⟨fun x hx => by
      obtain ⟨z, hz, h⟩ := mem_tr_block.1 hx
      exact mem_tr_block.2 ⟨z, (rew_more ns a).2 z hz, h⟩, fun x hx => by cases hx⟩
  | pair a b => ⟨fun x hx => by (cases hx), fun x hx => by
      rcases mem_pq_pair.1 hx with ⟨p, hp, q, hq, rfl⟩ | rfl
      · exact mem_pq_pair.2 (.inl ⟨p, (rew_more ns a).1 p hp, q, (rew_more ns b).1 q hq, rfl⟩)
      · exact mem_pq_pair.2 (.inr rfl)⟩
  | going a b => ⟨fun x hx => by (cases hx), fun x hx => by
      obtain ⟨p, hp, q, hq, rfl⟩ := mem_pq_going.1 hx
      exact mem_pq_going.2 ⟨p, (rew_more ns a).1 p hp, q, (rew_more ns b).1 q hq, rfl⟩⟩
  | stack a c => ⟨fun x hx => by (cases hx), fun x hx => by
      obtain ⟨p, hp, q, hq, rfl⟩ := mem_pq_stack.1 hx
      exact mem_pq_stack.2 ⟨p, (rew_more ns a).2 p hp, q, (rew_more ns c).1 q hq, rfl⟩⟩
  | fin s c => ⟨fun x hx => by (cases hx), fun x hx => by
      obtain ⟨q, hq, rfl⟩ := mem_pq_fin.1 hx
      exact mem_pq_fin.2 ⟨q, (rew_more ns c).1 q hq, rfl⟩⟩

theorem rew_twice (ns : List ByteArray) : ∀ m : Tm, ((m.rew ns).rew ns).tr = (m.rew ns).tr ∧ ((m.rew ns).rew ns).pq = (m.rew ns).pq
  | act s => by
    by_cases h : s ∈ ns
    · have e : (act s).rew ns = alt (act s) throw := by rw [rew, decide_eq_true h, cond_true]
      have e2 : (alt (act s) throw).rew ns = alt (alt (act s) throw) throw := by
        show alt ((act s).rew ns) (throw.rew ns) = _
        rw [e]; rfl
      rw [e, e2]
      refine ⟨tr_ext fun x => ?_, pq_ext fun x => ?_⟩
      · rw [mem_tr_alt, mem_tr_alt, or_assoc, or_self]
      · rw [mem_pq_alt, mem_pq_alt, or_assoc, or_self]
    · have e : (act s).rew ns = act s := by rw [rew, decide_eq_false h, cond_false]
      rw [e, e]; exact ⟨rfl, rfl⟩
  | skip | throw | yield | over s => ⟨rfl, rfl⟩
  | seq a b => ⟨tr_seq_congr (rew_twice ns a).1 (rew_twice ns b).1, pq_seq_congr (rew_twice ns a).2 (rew_twice ns b).2⟩
  | alt a b => ⟨tr_alt_congr (rew_twice ns a).1 (rew_twice ns b).1, pq_alt_congr (rew_twice ns a).2 (rew_twice ns b).2⟩
  | par a b => ⟨tr_par_congr (rew_twice ns a).1 (rew_twice ns b).1, pq_par_congr (rew_twice ns a).2 (rew_twice ns b).2⟩
  | hand a b => ⟨tr_hand_congr (rew_twice ns a).1 (rew_twice ns b).1, rfl⟩
  | block a => ⟨tr_block_congr (rew_twice ns a).2, rfl⟩
  | pair a b => ⟨rfl, pq_pair_congr (rew_twice ns a).1 (rew_twice ns b).1⟩
  | going a b => ⟨rfl, pq_going_congr (rew_twice ns a).1 (rew_twice ns b).1⟩
  | stack a c => ⟨rfl, pq_stack_congr (rew_twice ns a).2 (rew_twice ns c).1⟩
  | fin s c => ⟨rfl, pq_fin_congr (rew_twice ns c).1⟩

theorem rew_none (ns : List ByteArray) : ∀ m : Tm, (∀ s ∈ m.nm, s ∉ ns) → m.rew ns = m
  | act s, h => by rw [rew, decide_eq_false (h s (List.mem_singleton.2 rfl)), cond_false]
  | skip, _ | throw, _ | yield, _ | over s, _ => rfl
  | seq a b, h => by rw [rew, rew_none ns a fun s hs => h s (List.mem_append_left _ hs), rew_none ns b fun s hs => h s (List.mem_append_right _ hs)]
  | alt a b, h => by rw [rew, rew_none ns a fun s hs => h s (List.mem_append_left _ hs), rew_none ns b fun s hs => h s (List.mem_append_right _ hs)]
  | par a b, h => by rw [rew, rew_none ns a fun s hs => h s (List.mem_append_left _ hs), rew_none ns b fun s hs => h s (List.mem_append_right _ hs)]
  | hand a b, h => by rw [rew, rew_none ns a fun s hs => h s (List.mem_append_left _ hs), rew_none ns b fun s hs => h s (List.mem_append_right _ hs)]
  | pair a b, h => by rw [rew, rew_none ns a fun s hs => h s (List.mem_append_left _ hs), rew_none ns b fun s hs => h s (List.mem_append_right _ hs)]
  | going a b, h => by rw [rew, rew_none ns a fun s hs => h s (List.mem_append_left _ hs), rew_none ns b fun s hs => h s (List.mem_append_right _ hs)]
  | stack a b, h => by rw [rew, rew_none ns a fun s hs => h s (List.mem_append_left _ hs), rew_none ns b fun s hs => h s (List.mem_append_right _ hs)]
  | block a, h => by rw [rew, rew_none ns a h]
  | fin s a, h => by rw [rew, rew_none ns a h]
end Tm
end Go.Rd
