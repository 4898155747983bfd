/- The law that what is settled is less: what it tells. -/
import Derived.Test.YtlnpacehjfoffaaDoorL10
namespace Go.Proofs.YtlnpacehjfoffaaDoor.Sv
open Go Go.Sv Go.Rd
set_option linter.unusedVariables false
set_option linter.unusedSimpArgs false

theorem cntK_cons (k : Int) (x : Nd) (r : List Nd) : (x :: r).countP (fun n => decide (n.1 = k)) = r.countP (fun n => decide (n.1 = k)) + (if x.1 = k then 1 else 0) := by
  rw [List.countP_cons]
  by_cases h : x.1 = k <;> simp [h]

theorem law10_SettleLess_l2s (y0 : List Nd) (y2 : Bool) (y3 : List Nd) (k : Int) (l : List Nd) (hl : l.length ≤ 1000) : ∀ (r : List Nd) (i : Nat) (n : Nat), l.drop i = r → n ≤ i → law10_SettleLess_l2 y0 y2 y3 k (n : Int) l (l.length : Int) (i : Int) = some (0, (y0, y2, y3, k, ((n + r.countP (fun x => decide (x.1 = k)) : Nat) : Int)))
  | [], i, n, h, hn => by
    obtain ⟨h1, h2⟩ := drop_nil h
    rw [law10_SettleLess_l2_eq]
    simp only [h2, cond_false, List.countP_nil, Nat.add_zero]
  | x :: r, i, n, h, hn => by
    obtain ⟨h1, h2, h3, h4, h5, h6⟩ := drop_cons h
    rw [law10_SettleLess_l2_eq, cntK_cons]
    simp only [h2, h3, h4, cond_true, int_eq, w_succ (show i < 9223372036854775807 by omega), w_succ (show n < 9223372036854775807 by omega)]
    by_cases e : x.1 = k
    · simp only [e, decide_true, cond_true, law10_SettleLess_l2s y0 y2 y3 k l hl r (i + 1) (n + 1) h5 (by omega), if_true]
      congr 7; omega
    · simp only [e, decide_false, cond_false, law10_SettleLess_l2s y0 y2 y3 k l hl r (i + 1) n h5 (by omega), if_false, Nat.add_zero]

theorem law10_SettleLess_l4s (y0 : List Nd) (y2 : Bool) (y3 : List Nd) (k : Int) (l : List Nd) (hl : l.length ≤ 1000) : ∀ (r : List Nd) (i : Nat) (n : Int), l.drop i = r → -(i : Int) ≤ n → n ≤ 1000 → law10_SettleLess_l4 y0 y2 y3 k n l (l.length : Int) (i : Int) = some (0, (y0, y2, y3, k, n - ((r.countP (fun x => decide (x.1 = k)) : Nat) : Int)))
  | [], i, n, h, hn, hn' => by
    obtain ⟨h1, h2⟩ := drop_nil h
    rw [law10_SettleLess_l4_eq]
    simp only [h2, cond_false, List.countP_nil]
    simp
  | x :: r, i, n, h, hn, hn' => by
    obtain ⟨h1, h2, h3, h4, h5, h6⟩ := drop_cons h
    rw [law10_SettleLess_l4_eq, cntK_cons]
    simp only [h2, h3, h4, cond_true, int_eq, w_succ (show i < 9223372036854775807 by omega), w64_id (show -9223372036854775808 ≤ n - 1 by omega) (show n - 1 ≤ 9223372036854775807 by omega)]
    by_cases e : x.1 = k
    · simp only [e, decide_true, cond_true, law10_SettleLess_l4s y0 y2 y3 k l hl r (i + 1) (n - 1) h5 (by omega) (by omega), if_true]
      rw [show n - 1 - ((r.countP (fun x => decide (x.1 = k)) : Nat) : Int) = n - ((r.countP (fun x => decide (x.1 = k)) + 1 : Nat) : Int) by omega]
    · simp only [e, decide_false, cond_false, law10_SettleLess_l4s y0 y2 y3 k l hl r (i + 1) n h5 (by omega) hn', if_false, Nat.add_zero]

/-- The kinds that may not grow in number. -/
def few7 (k : Int) : Prop := k = 1 ∨ k = 6 ∨ k = 4 ∨ k = 10 ∨ k = 8 ∨ k = 9 ∨ k = 3

theorem law10_SettleLess_l0s (l a : List Nd) (y2 : Bool) (hl : l.length ≤ 200) (ha : a.length ≤ 200) (hc : ∀ k, few7 k → a.countP (fun x => decide (x.1 = k)) ≤ l.countP (fun x => decide (x.1 = k))) : ∀ (d : Nat) (k : Int), k + d = 11 → 1 ≤ k → law10_SettleLess_l0 l y2 a k = some (0, (l, y2, a))
  | 0, k, hk, h1 => by
    rw [law10_SettleLess_l0_eq, decide_eq_false (show ¬ k ≤ 10 by omega)]
    rfl
  | d + 1, k, hk, h1 => by
    rw [law10_SettleLess_l0_eq, decide_eq_true (show k ≤ 10 by omega)]
    have e2 := law10_SettleLess_l2s l y2 a k a (by omega) a 0 0 rfl (by omega)
    have hca : a.countP (fun x => decide (x.1 = k)) ≤ a.length := List.countP_le_length ..
    have e4 := law10_SettleLess_l4s l y2 a k l (by omega) l 0 ((a.countP (fun x => decide (x.1 = k)) : Nat) : Int) rfl (by omega) (by omega)
    rw [Int.natCast_zero, Nat.zero_add] at e2
    rw [Int.natCast_zero] at e4
    have ih := law10_SettleLess_l0s l a y2 hl ha hc d (k + 1) (by omega) (by omega)
    simp only [cond_true, e2, Option.bind_some, e4, w64_id (show -9223372036854775808 ≤ k + 1 by omega) (show k + 1 ≤ 9223372036854775807 by omega), ih, int_eq]
    by_cases hpos : ((a.countP (fun x => decide (x.1 = k)) : Nat) : Int) - ((l.countP (fun x => decide (x.1 = k)) : Nat) : Int) > 0
    · have nf : ¬ few7 k := fun hf => by have := hc k hf; omega
      unfold few7 at nf
      simp only [not_or] at nf
      obtain ⟨n1, n2, n3, n4, n5, n6, n7⟩ := nf
      simp only [decide_eq_true hpos, cond_true, n1, n2, n3, n4, n5, n6, n7, decide_false, cond_false]
    · simp only [decide_eq_false hpos, cond_false]

theorem sort_Acts_l (l : List Nd) (hl : l.length ≤ 100000) : ∀ (r : List Nd) (i : Nat) (acc : List ByteArray), l.drop i = r → acc.length ≤ i → i ≤ l.length → ∃ z, sort_Acts_l0 acc l (l.length : Int) (i : Int) = some (0, z) ∧ z.length ≤ l.length ∧ (∀ s, s ∈ z → s ∈ acc ∨ ∃ n ∈ r, n.1 = 1 ∧ n.2.1 = s)
  | [], i, acc, h, ha, hi => by
    obtain ⟨h1, h2⟩ := drop_nil h
    refine ⟨acc, ?_, by omega, fun s hs => .inl hs⟩
    · rw [sort_Acts_l0_eq]
      simp only [h2, cond_false]
  | x :: r, i, acc, h, ha, hi => by
    obtain ⟨h1, h2, h3, h4, h5, h6⟩ := drop_cons h
    obtain ⟨z1, e1, l1, m1⟩ := sort_Acts_l l hl r (i + 1) acc h5 (by omega) (by omega)
    obtain ⟨z2, e2, l2, m2⟩ := sort_Acts_l l hl r (i + 1) (acc ++ [x.2.1]) h5 (by simp; omega) (by omega)
    rw [sort_Acts_l0_eq]
    simp only [h2, h3, h4, cond_true, int_eq, slices_Contains__string_s acc _ (show acc.length ≤ 4611686018427387904 by omega), Option.bind_some, w_succ (show i < 9223372036854775807 by omega), room (show (acc.length + 1) * 16 ≤ 140737488355328 by omega), e1, e2]
    have g1 : ∀ s, s ∈ z1 → s ∈ acc ∨ ∃ n ∈ x :: r, n.1 = 1 ∧ n.2.1 = s := fun s hs => by
      rcases m1 s hs with h | ⟨n, hn, k⟩
      · exact .inl h
      · exact .inr ⟨n, List.mem_cons_of_mem _ hn, k⟩
    by_cases hk : x.1 = 1
    · by_cases hm : x.2.1 ∈ acc
      · refine ⟨z1, by simp [hk, hm], l1, g1⟩
      · refine ⟨z2, by simp [hk, hm], l2, fun s hs => ?_⟩
        rcases m2 s hs with h | ⟨n, hn, k⟩
        · rcases List.mem_append.1 h with h | h
          · exact .inl h
          · rw [List.mem_singleton] at h
            exact .inr ⟨x, List.mem_cons_self .., hk, h.symm⟩
        · exact .inr ⟨n, List.mem_cons_of_mem _ hn, k⟩
    · refine ⟨z1, by simp [hk], l1, g1⟩

theorem sort_Acts_m (l : List Nd) (hl : l.length ≤ 100000) : ∃ z, sort_Acts l = some z ∧ z.length ≤ l.length ∧ (∀ s, s ∈ z → ∃ n ∈ l, n.1 = 1 ∧ n.2.1 = s) := by
  obtain ⟨z, e, h1, h2⟩ := sort_Acts_l l hl l 0 [] rfl (by simp) (by omega)
  refine ⟨z, ?_, h1, fun s hs => ?_⟩
  · rw [sort_Acts_eq]
    rw [Int.natCast_zero] at e
    rw [e]; rfl
  · rcases h2 s hs with h | h
    · cases h
    · exact h

theorem law10_SettleLess_l8s (l : List Nd) (y2 : Bool) (s : ByteArray) (y87 : List ByteArray) (y88 y89 : Int) (hl : l.length ≤ 1000) : ∀ (r : List Nd) (i : Nat) (b : Bool), l.drop i = r → law10_SettleLess_l8 l y2 s b y87 y88 y89 l (l.length : Int) (i : Int) = some (0, (l, y2, b || decide (((1 : Int), s, (0 : Int)) ∈ r), y87, y88, y89))
  | [], i, b, h => by
    obtain ⟨h1, h2⟩ := drop_nil h
    rw [law10_SettleLess_l8_eq]
    simp only [h2, cond_false]
    simp
  | x :: r, i, b, h => by
    obtain ⟨h1, h2, h3, h4, h5, h6⟩ := drop_cons h
    rw [law10_SettleLess_l8_eq]
    have ih := fun b => law10_SettleLess_l8s l y2 s y87 y88 y89 hl r (i + 1) b h5
    have hq : (((x.1 == (1 : Int)) && ((x.2.1.toList == s.toList) && (x.2.2 == (0 : Int))))) = decide (x = (1, s, 0)) := nd_eq x (1, s, 0)
    simp only [h2, h3, h4, cond_true, law10_act_eq, Option.bind_some, hq, w_succ (show i < 9223372036854775807 by omega), ih]
    cases b
    · by_cases e : x = (1, s, 0)
      · simp [e]
      · simp [e, Ne.symm e]
    · simp

theorem law10_SettleLess_l6s (l : List Nd) (y2 : Bool) (hl : l.length ≤ 1000) (ns : List ByteArray) (hn : ns.length ≤ 1000) (hs : ∀ s ∈ ns, ((1 : Int), s, (0 : Int)) ∈ l) : ∀ (r : List ByteArray) (i : Nat), ns.drop i = r → law10_SettleLess_l6 l y2 ns (ns.length : Int) (i : Int) = some (0, y2)
  | [], i, h => by
    obtain ⟨h1, h2⟩ := drop_nil h
    rw [law10_SettleLess_l6_eq]
    simp only [h2, cond_false]
  | x :: r, i, h => by
    obtain ⟨h1, h2, h3, h4, h5, h6⟩ := drop_cons h
    rw [law10_SettleLess_l6_eq]
    have hx : ((1 : Int), x, (0 : Int)) ∈ l := hs x (List.mem_of_mem_drop (by rw [h]; exact List.mem_cons_self ..))
    have e8 := law10_SettleLess_l8s l y2 x ns (ns.length : Int) (i : Int) hl l 0 false rfl
    rw [Int.natCast_zero, decide_eq_true hx] at e8
    simp only [h2, h3, h4, cond_true, e8, Option.bind_some, Bool.or_true, Bool.not_true, cond_false, w_succ (show i < 9223372036854775807 by omega)]
    exact law10_SettleLess_l6s l y2 hl ns hn hs r (i + 1) h5

theorem cnt_wt (k : Int) (m : Tm) : m.row.countP (fun x => decide (x.1 = k)) = m.wt (fun x => if x.1 = k then 1 else 0) := by
  unfold Tm.wt
  induction m.row with
  | nil => rfl
  | cons x r ih => rw [cntK_cons, ih, List.map_cons, List.sum_cons]; omega

theorem act_nodes {p : ByteArray → Prop} {q : Int → Prop} : ∀ {m : Tm}, m.good p q → ∀ n ∈ m.row, n.1 = 1 → p n.2.1 ∧ n.2.2 = 0 := by
  intro m
  induction m with
  | act s => intro h n hn _; rw [Tm.row_act, List.mem_singleton] at hn; subst hn; exact ⟨h, rfl⟩
  | skip => intro h n hn hk; rw [Tm.row_skip, List.mem_singleton] at hn; subst hn; cases hk
  | throw => intro h n hn hk; rw [Tm.row_throw, List.mem_singleton] at hn; subst hn; cases hk
  | yield => intro h n hn hk; rw [Tm.row_yield, List.mem_singleton] at hn; subst hn; cases hk
  | over s => intro h n hn hk; rw [Tm.row_over, List.mem_singleton] at hn; subst hn; cases hk
  | block a ih =>
    intro h n hn hk
    rw [Tm.row_block] at hn
    rcases List.mem_cons.1 hn with rfl | hn
    · cases hk
    · exact ih h n hn hk
  | fin s a ih =>
    intro h n hn hk
    rw [Tm.row_fin] at hn
    rcases List.mem_cons.1 hn with rfl | hn
    · cases hk
    · exact ih h.2 n hn hk
  | seq a b iha ihb | alt a b iha ihb | par a b iha ihb | hand a b iha ihb | pair a b iha ihb | going a b iha ihb | stack a b iha ihb =>
    intro h n hn hk
    rcases List.mem_cons.1 hn with rfl | hn
    · cases hk
    · rcases List.mem_append.1 hn with hn | hn
      · exact iha h.1 n hn hk
      · exact ihb h.2 n hn hk

theorem act_mem : ∀ {m : Tm} (l : List Nd), (∀ n ∈ m.row, n ∈ l) → m.good (fun s => ((1 : Int), s, (0 : Int)) ∈ l) (fun _ => True) := by
  intro m
  induction m with
  | act s => intro l h; exact h _ (by simp)
  | skip | throw | yield => intro l h; trivial
  | over s => intro l h; trivial
  | block a ih => intro l h; exact ih l fun n hn => h n (List.mem_cons_of_mem _ hn)
  | fin s a ih => intro l h; exact ⟨trivial, ih l fun n hn => h n (List.mem_cons_of_mem _ hn)⟩
  | seq a b iha ihb | alt a b iha ihb | par a b iha ihb | hand a b iha ihb | pair a b iha ihb | going a b iha ihb | stack a b iha ihb =>
    intro l h
    exact ⟨iha l fun n hn => h n (List.mem_cons_of_mem _ (List.mem_append_left _ hn)), ihb l fun n hn => h n (List.mem_cons_of_mem _ (List.mem_append_right _ hn))⟩

theorem law10_SettleLess_true (l : List Nd) (hw : wfRow l) : law10_SettleLess l = some true := by
  rw [law10_SettleLess_eq]
  simp only [law10_few_s, law10_alive_s, Option.bind_some]
  by_cases h : l.length ≤ 120 ∧ dep l ≤ 24
  · have h1 := h.1
    simp only [h, and_self, decide_true, Bool.not_true, cond_false, settle_Settle_s l (by omega), Option.bind_some]
    have key : ∀ a : List Nd, a.length ≤ l.length → (∀ k, few7 k → a.countP (fun x => decide (x.1 = k)) ≤ l.countP (fun x => decide (x.1 = k))) → (∀ n ∈ a, n.1 = 1 → ((1 : Int), n.2.1, (0 : Int)) ∈ l) →
        (bif decide ((a.length : Int) > (l.length : Int)) then some false else (law10_SettleLess_l0 l false a 1).bind fun r8 => bif Nat.beq r8.1 0 then ((sort_Acts r8.2.2.2).bind fun r9 => (law10_SettleLess_l6 r8.2.1 r8.2.2.1 r9 (r9.length : Int) 0).bind fun r14 => bif Nat.beq r14.1 0 then some true else (some r14.2)) else (some r8.2.2.1)) = some true := by
      intro a ha hc hm
      rw [decide_eq_false (show ¬ (a.length : Int) > (l.length : Int) by omega)]
      obtain ⟨z, e, l1, m1⟩ := sort_Acts_m a (by omega)
      have e6 := law10_SettleLess_l6s l false (by omega) z (by omega) (fun s hs => by
        obtain ⟨n, hn, hk, rfl⟩ := m1 s hs
        exact hm n hn hk) z 0 rfl
      rw [Int.natCast_zero] at e6
      simp only [cond_false, law10_SettleLess_l0s l a false (by omega) (by omega) hc 10 1 rfl (by decide), Option.bind_some, Nat.beq_refl, cond_true, e, e6]
    rcases settleR_cases l with hz | ⟨m, rfl, hf, hs, ho, hr, hso⟩
    · rw [hz]
      exact key [] (by simp) (fun k _ => by simp) (fun n hn => by cases hn)
    · have hsz := m.st_size
      rw [hr]
      refine key m.st.row (by rw [Tm.len_row, Tm.len_row]; exact hsz) (fun k hk => ?_) (fun n hn hk => ?_)
      · rw [cnt_wt, cnt_wt]
        refine Tm.wt_st _ ⟨?_, fun s => ?_, fun s => ?_, ?_, ?_⟩ m <;> (rw [if_neg]; rcases hk with rfl | rfl | rfl | rfl | rfl | rfl | rfl <;> simp)
      · have g := Tm.st_good (p := fun s => ((1 : Int), s, (0 : Int)) ∈ m.row) (q := fun _ => True) trivial trivial (fun _ _ _ _ => trivial) m (act_mem m.row fun n hn => hn)
        exact (act_nodes g n hn hk).1
  · simp only [decide_eq_false h, Bool.not_false, cond_true]

end Go.Proofs.YtlnpacehjfoffaaDoor.Sv
