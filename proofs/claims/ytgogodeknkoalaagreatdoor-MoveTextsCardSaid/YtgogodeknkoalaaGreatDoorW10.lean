/- What the functions of settling compute (package settle, redressref10): in plain words. -/
import Derived.Test.YtgogodeknkoalaaGreatDoorW04
import Derived.Test.YtgogodeknkoalaaGreatDoorW01
import Derived.Test.YtgogodeknkoalaaGreatDoorM4
namespace Go.Proofs.YtgogodeknkoalaaGreatDoor.Sv
open Go Go.Sv Go.Rd
set_option linter.unusedVariables false
set_option linter.unusedSimpArgs false
theorem settle_over_s [Dfr] (s : Int) : settle_over s = some (Tm.over s).row := by
  rw [settle_over_eq]; rfl
theorem settle_end_s [Dfr] (s : Int) (c : Tm) (h : c.size ≤ 50000) : settle_end s c.row = some (Tm.fin s c).row := by
  rw [settle_end_eq, row_Make1 _ _ (by rw [Tm.len_row]; omega)]
  rfl
theorem make2 [Dfr] (k : Int) (a b : Tm) (ha : a.size ≤ 50000) (hb : b.size ≤ 50000) : row_Make (nd k) [a.row, b.row] = some (nd k :: (a.row ++ b.row)) :=
  row_Make2 _ _ _ (by rw [Tm.len_row]; omega) (by rw [Tm.len_row]; omega)
/-- The head of a tree's row. -/
theorem hd_id [Dfr] (m : Tm) : idxOk 0 m.row.length = true := idxOk_zero (by rw [Tm.len_row]; exact m.size_pos)
theorem hd_ix [Dfr] (m : Tm) : ix m.row 0 = m.t.hd := by
  obtain ⟨r, hr⟩ := T.row_cons m.t
  unfold Tm.row
  rw [hr]; rfl
theorem cut_fin [Dfr] (s : Int) (c : Tm) : cut (Tm.fin s c).row 1 ((Tm.fin s c).row.length : Int) = c.row := by
  rw [show (1 : Int) = ((1 : Nat) : Int) from rfl, cut_end]
  rfl
theorem cutOk_fin [Dfr] (m : Tm) : cutOk 1 (m.row.length : Int) m.row.length = true := by
  have := m.size_pos
  rw [← Tm.len_row] at this
  exact cutOk_nat (a := 1) (by omega) (Nat.le_refl _)
theorem settle_stack_s [Dfr] (x c : Tm) (hx : x.size ≤ 20000) (hc : c.size ≤ 20000) : settle_stack x.row c.row = some (Tm.stack' x c).row := by
  rw [settle_stack_eq]
  simp only [hd_id, hd_ix, cond_true, cutOk_fin]
  have h13 : row_Make (13, ByteArray.empty, 0) [x.row, c.row] = some (Tm.stack x c).row := make2 13 x c (by omega) (by omega)
  cases x <;> first | (simp only [h13]; rfl) | skip
  rename_i s d
  rw [Tm.size_fin] at hx
  have h5 : row_Make (5, ByteArray.empty, 0) [d.row, c.row] = some (Tm.seq d c).row := make2 5 d c (by omega) (by omega)
  rw [cut_fin, h5]
  simp only [Option.bind_some]
  rw [settle_end_s _ _ (by rw [Tm.size_seq]; omega)]
  rfl
theorem settle_par_s [Dfr] (x y : Tm) (hx : x.size ≤ 20000) (hy : y.size ≤ 20000) : settle_par (nd 7) x.row y.row = some (Tm.par' x y).row := by
  rw [settle_par_eq]
  simp only [hd_id, hd_ix, cond_true, cutOk_fin, sign_Both_s, Option.bind_some]
  have h7 : row_Make (nd 7) [x.row, y.row] = some (Tm.par x y).row := make2 7 x y (by omega) (by omega)
  cases x with
  | over s =>
    cases y with
    | over z => rw [settle_over_s]; rfl
    | _ => simp only [h7]; rfl
  | fin s c =>
    cases y with
    | fin z d =>
      rw [Tm.size_fin] at hx hy
      have h5 : row_Make (nd 7) [c.row, d.row] = some (Tm.par c d).row := make2 7 c d (by omega) (by omega)
      rw [cut_fin, cut_fin, h5]
      simp only [Option.bind_some]
      rw [settle_end_s _ _ (by rw [Tm.size_par]; omega)]
      rfl
    | _ => simp only [h7]; rfl
  | _ => simp only [h7]; cases y <;> rfl
theorem settle_Ended_s [Dfr] (l : List Nd) : settle_Ended l = some (match l with | [n] => if n.1 = 11 then (n.2.2, true) else (0, false) | _ => (0, false)) := by
  rw [settle_Ended_eq]
  match l with
  | [] => rfl
  | [n] =>
    simp only [show ((([n] : List Nd).length : Int) != 1) = false from rfl, cond_false, show idxOk 0 ([n] : List Nd).length = true from rfl, cond_true, show ix [n] 0 = n from rfl]
    by_cases h : n.1 = 11
    · simp [h]
    · have : (n.1 != 11) = true := by simpa using h
      simp [this, h]
  | a :: b :: r =>
    have : (((a :: b :: r).length : Int) != 1) = true := by
      simp only [List.length_cons, bne_iff_ne, ne_eq]; omega
    rw [this]; rfl
/-- How a tree has ended. -/
def ended (m : Tm) : Int × Bool := match m with | .over s => (s, true) | _ => (0, false)
theorem settle_Ended_m [Dfr] (m : Tm) : settle_Ended m.row = some (ended m) := by
  rw [settle_Ended_s]
  have two : ∀ (n : Nd) (a : Tm), (match n :: a.row with | [n] => if n.1 = 11 then (n.2.2, true) else (0, false) | _ => ((0 : Int), false)) = (0, false) := fun n a => by
    have := a.row_ne
    cases h : a.row with
    | nil => exact absurd h this
    | cons _ _ => rfl
  have three : ∀ (n : Nd) (a b : Tm), (match n :: (a.row ++ b.row) with | [n] => if n.1 = 11 then (n.2.2, true) else (0, false) | _ => ((0 : Int), false)) = (0, false) := fun n a b => by
    have := a.row_ne
    cases h : a.row with
    | nil => exact absurd h this
    | cons _ _ => rfl
  cases m <;> first | rfl | exact congrArg some (two _ _) | exact congrArg some (three _ _ _)
theorem settle_s [Dfr] : ∀ (n : Nat) (m : Tm), m.size ≤ n → n ≤ 10000 → settle_settle m.row = some m.st.row := by
  intro n
  induction n with
  | zero => intro m h; have := m.size_pos; omega
  | succ n ih =>
    intro m h hn
    rw [settle_settle_eq]
    simp only [hd_id, hd_ix, cond_true]
    cases m with
    | act s => rw [kids0 (.act s) rfl (by omega)]; rw [Tm.st_act]; rfl
    | yield => rw [kids0 .yield rfl (by omega)]; rw [Tm.st_yield]; rfl
    | over s => rw [kids0 (.over s) rfl (by omega)]; rw [Tm.st_over]; rfl
    | skip => rw [kids0 .skip rfl (by omega), Tm.st_skip]; simp only [settle_over_s]; rfl
    | throw => rw [kids0 .throw rfl (by omega), Tm.st_throw]; simp only [settle_over_s]; rfl
    | alt a b => rw [kids2 (.alt a b) rfl (by omega), Tm.st_alt]; rfl
    | pair a b => rw [kids2 (.pair a b) rfl (by omega), Tm.st_pair]; rfl
    | fin s a => rw [kids1 (.fin s a) rfl (by omega), Tm.st_fin]; rfl
    | hand a b =>
      rw [Tm.size_hand] at h
      have ha := ih a (by omega) (by omega)
      have hb := ih b (by omega) (by omega)
      have hsa := a.st_size
      rw [kids2 (.hand a b) rfl (by rw [Tm.size_hand]; omega), Tm.st_hand]
      simp only [Option.bind_some, show ix [a.row, b.row] 0 = a.row from rfl, show ix [a.row, b.row] 1 = b.row from rfl, show idxOk 0 [a.row, b.row].length = true from rfl, show idxOk 1 [a.row, b.row].length = true from rfl, ha, show (Tm.hand a b).t.hd = nd 8 from rfl, cond_true, cond_false, show (((nd 8).1 : Int) == 2) = false from rfl, show (((nd 8).1 : Int) == 3) = false from rfl, show (((nd 8).1 : Int) == 8) = true from rfl]
      rw [settle_behind_eq]
      simp only [hd_id, hd_ix, cond_true]
      generalize a.st = x at hsa
      have h8 : row_Make (nd 8) [x.row, b.row] = some (Tm.hand x b).row := make2 8 x b (by omega) (by omega)
      cases x <;> first | (simp only [h8]; rfl) | skip
      rename_i s
      simp only [Tm.hand', Tm.t, T.hd]
      by_cases hz : s = 2
      · subst hz
        simp only [hb, if_true, emp]; rfl
      · simp only [if_neg hz, int_eq, hz, decide_false, Bool.and_false, cond_false]; rfl
    | seq a b =>
      rw [Tm.size_seq] at h
      have ha := ih a (by omega) (by omega)
      have hb := ih b (by omega) (by omega)
      have hsa := a.st_size
      have hsb := b.st_size
      rw [kids2 (.seq a b) rfl (by rw [Tm.size_seq]; omega), Tm.st_seq]
      simp only [Option.bind_some, show ix [a.row, b.row] 0 = a.row from rfl, show ix [a.row, b.row] 1 = b.row from rfl, show idxOk 0 [a.row, b.row].length = true from rfl, show idxOk 1 [a.row, b.row].length = true from rfl, ha, hb, show (Tm.seq a b).t.hd = nd 5 from rfl, cond_true, cond_false, show (((nd 5).1 : Int) == 2) = false from rfl, show (((nd 5).1 : Int) == 3) = false from rfl, show (((nd 5).1 : Int) == 8) = false from rfl, show (((nd 5).1 : Int) == 5) = true from rfl, hd_id, hd_ix]
      generalize a.st = x at hsa
      have h5 : row_Make (nd 5) [x.row, b.row] = some (Tm.seq x b).row := make2 5 x b (by omega) (by omega)
      cases x with
      | fin s c =>
        simp only [Tm.seq', Tm.t, T.hd, show ((14 : Int) != 14) = false from rfl, cond_false]
        by_cases hz : s = 1
        · subst hz
          rw [Tm.size_fin] at hsa
          have hss := settle_stack_s b.st c (by omega) (by omega)
          simp only [show ((1 : Int) != 1) = false from rfl, cond_false, if_true, cutOk_fin, cond_true, cut_fin, hss, Option.bind_some]
        · have : (s != 1) = true := by simpa using hz
          simp only [this, cond_true, if_neg hz]
      | over s =>
        rw [settle_behind_eq]
        simp only [hd_id, hd_ix, cond_true, Tm.seq', Tm.t, T.hd]
        by_cases hz : s = 1
        · subst hz
          simp only [hb, if_true, emp]; rfl
        · simp only [if_neg hz, int_eq, hz, decide_false, Bool.and_false, cond_false]; rfl
      | _ =>
        rw [settle_behind_eq]
        simp only [hd_id, hd_ix, cond_true, h5]
        rfl
    | stack a c =>
      rw [Tm.size_stack] at h
      have ha := ih a (by omega) (by omega)
      have hsa := a.st_size
      have hss := settle_stack_s a.st c (by omega) (by omega)
      rw [kids2 (.stack a c) rfl (by rw [Tm.size_stack]; omega), Tm.st_stack]
      simp only [Option.bind_some, show ix [a.row, c.row] 0 = a.row from rfl, show ix [a.row, c.row] 1 = c.row from rfl, show idxOk 0 [a.row, c.row].length = true from rfl, show idxOk 1 [a.row, c.row].length = true from rfl, ha, hss]
      rfl
    | going a b =>
      rw [Tm.size_going] at h
      have ha := ih a (by omega) (by omega)
      have hsa := a.st_size
      rw [kids2 (.going a b) rfl (by rw [Tm.size_going]; omega), Tm.st_going]
      simp only [Option.bind_some, show ix [a.row, b.row] 0 = a.row from rfl, show ix [a.row, b.row] 1 = b.row from rfl, show idxOk 0 [a.row, b.row].length = true from rfl, show idxOk 1 [a.row, b.row].length = true from rfl, ha, settle_Ended_m, show (Tm.going a b).t.hd = nd 12 from rfl, cond_true]
      generalize a.st = x at hsa
      have h12 : row_Make (nd 12) [x.row, b.row] = some (Tm.going x b).row := make2 12 x b (by omega) (by omega)
      cases x <;> first | (simp only [h12, ended]; rfl) | skip
      rename_i s
      simp only [Tm.going', ended]
      by_cases hz : s = 1
      · subst hz
        simp only [settle_end_s 1 b (by omega), if_true]; rfl
      · have e1 : (s != 1) = true := by simpa using hz
        have e2 : settle_end s [nd 2] = some (Tm.fin s .skip).row := settle_end_s s .skip (by decide)
        have e3 : ix ([a.row, b.row].set 1 [(2, ByteArray.empty, 0)]) 1 = [nd 2] := rfl
        have e4 : idxOk 1 ([a.row, b.row].set 1 [(2, ByteArray.empty, 0)]).length = true := rfl
        simp only [e1, e3, e4, e2, if_neg hz, cond_true]; rfl
    | par a b =>
      rw [Tm.size_par] at h
      have ha := ih a (by omega) (by omega)
      have hb := ih b (by omega) (by omega)
      have hsa := a.st_size
      have hsb := b.st_size
      have hp := settle_par_s a.st b.st (by omega) (by omega)
      rw [kids2 (.par a b) rfl (by rw [Tm.size_par]; omega), Tm.st_par]
      simp only [Option.bind_some, show ix [a.row, b.row] 0 = a.row from rfl, show ix [a.row, b.row] 1 = b.row from rfl, show idxOk 0 [a.row, b.row].length = true from rfl, show idxOk 1 [a.row, b.row].length = true from rfl, ha, hb, show (Tm.par a b).t.hd = nd 7 from rfl, hp]
      rfl
    | block a =>
      rw [Tm.size_block] at h
      have ha := ih a (by omega) (by omega)
      have hsa := a.st_size
      rw [kids1 (.block a) rfl (by rw [Tm.size_block]; omega), Tm.st_block]
      simp only [Option.bind_some, show ix [a.row] 0 = a.row from rfl, show idxOk 0 [a.row].length = true from rfl, ha, show (Tm.block a).t.hd = nd 9 from rfl, cond_true]
      rw [settle_block_eq]
      simp only [hd_id, hd_ix, cond_true]
      generalize a.st = x at hsa
      have h9 : row_Make (nd 9) [x.row] = some (Tm.block x).row := row_Make1 _ _ (by rw [Tm.len_row]; omega)
      cases x <;> first | (simp only [h9]; rfl) | skip
      rename_i s c
      rw [Tm.size_fin] at hsa
      have hc := ih c (by omega) (by omega)
      simp only [Tm.block', Tm.t, T.hd]
      by_cases hz : s = 1
      · subst hz
        simp only [settle_over_s, if_true, emp]; rfl
      · by_cases hz2 : s = 2
        · subst hz2
          simp only [cutOk_fin, cut_fin, hc, emp]; rfl
        · simp only [if_neg hz, if_neg hz2, int_eq, hz, hz2, decide_false, Bool.and_false, cond_false, h9]; rfl
/-- What comes of a row that goes on; nothing: it is none. -/
noncomputable def settleR (l : List Nd) : List Nd := match tmOf l with | some m => if m.po = true ∨ m.qo = true then m.st.row else [] | none => []
theorem on_qo [Dfr] (m : Tm) : on m.so = 4 ↔ m.qo = true := by rw [Tm.so_qo]; simp
theorem on_po [Dfr] (m : Tm) : on m.so = 3 ↔ m.po = true := by rw [Tm.so_po]; simp
theorem settle_Settle_s [Dfr] (l : List Nd) (hl : l.length ≤ 4611686018427387904) : settle_Settle l = some (settleR l) := by
  rw [settle_Settle_eq]
  simp only [sort_On_s l _ hl, Option.bind_some]
  unfold settleR sOf
  cases h : tmOf l with
  | none => rfl
  | some m =>
    obtain ⟨rfl, h2, h3⟩ := tmOf_some.1 h
    have hs := settle_s m.size m (Nat.le_refl _) (by omega)
    have hsz := m.st_size
    have e1 : decide ((m.st.row.length : Int) > 200) = false := decide_eq_false (by rw [Tm.len_row]; omega)
    have e2 : roomOk (0 + m.st.row.length) 32 = true := room (by rw [Tm.len_row]; omega)
    simp only [hs, Option.bind_some, e1, e2, cond_true, cond_false, List.nil_append, on_qo, on_po, if_true, if_false, Bool.false_eq_true]
    cases h1 : m.po <;> cases h2 : m.qo <;> simp
theorem settle_Settled_s [Dfr] (l : List Nd) (hl : l.length ≤ 4611686018427387904) : settle_Settled l = some (decide (l ≠ [] ∧ settleR l = l)) := by
  rw [settle_Settled_eq]
  cases l with
  | nil => rfl
  | cons x r =>
    have e1 : decide (((x :: r).length : Int) > 0) = true := decide_eq_true (by simp only [List.length_cons]; omega)
    have hlen : (settleR (x :: r)).length ≤ 4611686018427387904 := by
      unfold settleR
      split
      · rename_i m hm
        split
        · have := m.st_size
          have := (tmOf_some.1 hm).2.2
          rw [Tm.len_row]; omega
        · simp
      · simp
    simp only [e1, cond_true, settle_Settle_s _ hl, Option.bind_some, row_Same_s _ _ hlen]
    simp
end Go.Proofs.YtgogodeknkoalaaGreatDoor.Sv
