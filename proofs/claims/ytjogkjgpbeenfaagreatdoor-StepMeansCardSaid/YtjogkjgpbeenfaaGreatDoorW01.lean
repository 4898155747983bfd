/- What the functions of signs compute (package sign, redressref01): in plain words. -/
import Derived.Test.YtjogkjgpbeenfaaGreatDoorW00
import Derived.Test.YtjogkjgpbeenfaaGreatDoorM3
import Derived.Test.YtjogkjgpbeenfaaGreatDoorM4
namespace Go.Proofs.YtjogkjgpbeenfaaGreatDoor.Sv
open Go Go.Sv Go.Rd
set_option linter.unusedVariables false
set_option linter.unusedSimpArgs false
theorem emp [Dfr] : (ByteArray.empty.toList == ByteArray.empty.toList) = true := beq_self_eq_true _
theorem ykt [Dfr] (x : Int) : qnx x = some (ztt x) := by
  rw [yhj]
  unfold ztt
  by_cases h : x ≥ 1
  · rw [decide_eq_true h]; simp
  · rw [decide_eq_false h]; rfl
theorem qny [Dfr] (x y : Int) : qah x y = some (bs x y) := by
  rw [qyy]
  simp only [ykt, Option.bind_some, int_eq, bs]
  cases ztt x <;> cases ztt y <;> simp
  by_cases h1 : x = 2 <;> by_cases h2 : y = 2 <;> simp [h1, h2]
end Go.Proofs.YtjogkjgpbeenfaaGreatDoor.Sv

/- What the functions of settling compute (package settle, redressref10): in plain words. -/
namespace Go.Proofs.YtjogkjgpbeenfaaGreatDoor.Sv
open Go Go.Sv Go.Rd
set_option linter.unusedVariables false
set_option linter.unusedSimpArgs false
theorem zrp [Dfr] (s : Int) : zmp s = some (Tm.over s).row := by
  rw [qrq]; rfl
theorem zue [Dfr] (s : Int) (c : Tm) (h : c.size ≤ 50000) : zlf s c.row = some (Tm.fin s c).row := by
  rw [qvr, qzi _ _ (by rw [Tm.zac]; omega)]
  rfl
theorem ydo [Dfr] (k : Int) (a b : Tm) (ha : a.size ≤ 50000) (hb : b.size ≤ 50000) : zbw (nd k) [a.row, b.row] = some (nd k :: (a.row ++ b.row)) :=
  ylg _ _ _ (by rw [Tm.zac]; omega) (by rw [Tm.zac]; omega)
theorem ybc [Dfr] (m : Tm) : zaa 0 m.row.length = true := zbp (by rw [Tm.zac]; exact m.zes)
theorem ybb [Dfr] (m : Tm) : ix m.row 0 = m.t.hd := by
  obtain ⟨r, hr⟩ := T.yql m.t
  unfold Tm.row
  rw [hr]; rfl
theorem qqm [Dfr] (s : Int) (c : Tm) : cut (Tm.fin s c).row 1 ((Tm.fin s c).row.length : Int) = c.row := by
  rw [show (1 : Int) = ((1 : Nat) : Int) from rfl, qqn]
  rfl
theorem qhy [Dfr] (m : Tm) : zdh 1 (m.row.length : Int) m.row.length = true := by
  have := m.zes
  rw [← Tm.zac] at this
  exact zqd (a := 1) (by omega) (Nat.le_refl _)
theorem qdj [Dfr] (x c : Tm) (hx : x.size ≤ 20000) (hc : c.size ≤ 20000) : zpr x.row c.row = some (Tm.zrb x c).row := by
  rw [qoc]
  simp only [ybc, ybb, cond_true, qhy]
  have h13 : zbw (13, ByteArray.empty, 0) [x.row, c.row] = some (Tm.stack x c).row := ydo 13 x c (by omega) (by omega)
  cases x <;> first | (simp only [h13]; rfl) | skip
  rename_i s d
  rw [Tm.zfd] at hx
  have h5 : zbw (5, ByteArray.empty, 0) [d.row, c.row] = some (Tm.seq d c).row := ydo 5 d c (by omega) (by omega)
  rw [qqm, h5]
  simp only [Option.bind_some]
  rw [zue _ _ (by rw [Tm.zcs]; omega)]
  rfl
theorem qyz [Dfr] (x y : Tm) (hx : x.size ≤ 20000) (hy : y.size ≤ 20000) : qch (nd 7) x.row y.row = some (Tm.par' x y).row := by
  rw [qvq]
  simp only [ybc, ybb, cond_true, qhy, qny, Option.bind_some]
  have h7 : zbw (nd 7) [x.row, y.row] = some (Tm.par x y).row := ydo 7 x y (by omega) (by omega)
  cases x with
  | over s =>
    cases y with
    | over z => rw [zrp]; rfl
    | _ => simp only [h7]; rfl
  | fin s c =>
    cases y with
    | fin z d =>
      rw [Tm.zfd] at hx hy
      have h5 : zbw (nd 7) [c.row, d.row] = some (Tm.par c d).row := ydo 7 c d (by omega) (by omega)
      rw [qqm, qqm, h5]
      simp only [Option.bind_some]
      rw [zue _ _ (by rw [Tm.zet]; omega)]
      rfl
    | _ => simp only [h7]; rfl
  | _ => simp only [h7]; cases y <;> rfl
theorem qrr [Dfr] (l : List Nd) : zps l = some (match l with | [n] => if n.1 = 11 then (n.2.2, true) else (0, false) | _ => (0, false)) := by
  rw [qoe]
  match l with
  | [] => rfl
  | [n] =>
    simp only [show ((([n] : List Nd).length : Int) != 1) = false from rfl, cond_false, show zaa 0 ([n] : List Nd).length = true from rfl, cond_true, show ix [n] 0 = n from rfl]
    by_cases h : n.1 = 11
    · simp [h]
    · have : (n.1 != 11) = true := by simpa using h
      simp [this, h]
  | a :: b :: r =>
    have : (((a :: b :: r).length : Int) != 1) = true := by
      simp only [List.length_cons, bne_iff_ne, ne_eq]; omega
    rw [this]; rfl
def ended (m : Tm) : Int × Bool := match m with | .over s => (s, true) | _ => (0, false)
theorem qrs [Dfr] (m : Tm) : zps m.row = some (ended m) := by
  rw [qrr]
  have two : ∀ (n : Nd) (a : Tm), (match n :: a.row with | [n] => if n.1 = 11 then (n.2.2, true) else (0, false) | _ => ((0 : Int), false)) = (0, false) := fun n a => by
    have := a.qth
    cases h : a.row with
    | nil => exact absurd h this
    | cons _ _ => rfl
  have three : ∀ (n : Nd) (a b : Tm), (match n :: (a.row ++ b.row) with | [n] => if n.1 = 11 then (n.2.2, true) else (0, false) | _ => ((0 : Int), false)) = (0, false) := fun n a b => by
    have := a.qth
    cases h : a.row with
    | nil => exact absurd h this
    | cons _ _ => rfl
  cases m <;> first | rfl | exact congrArg some (two _ _) | exact congrArg some (three _ _ _)
theorem yqc [Dfr] : ∀ (n : Nat) (m : Tm), m.size ≤ n → n ≤ 10000 → zbq m.row = some m.st.row := by
  intro n
  induction n with
  | zero => intro m h; have := m.zes; omega
  | succ n ih =>
    intro m h hn
    rw [qle]
    simp only [ybc, ybb, cond_true]
    cases m with
    | act s => rw [qpv (.act s) rfl (by omega)]; rw [Tm.qdh]; rfl
    | yield => rw [qpv .yield rfl (by omega)]; rw [Tm.qfs]; rfl
    | over s => rw [qpv (.over s) rfl (by omega)]; rw [Tm.qio]; rfl
    | skip => rw [qpv .skip rfl (by omega), Tm.qim]; simp only [zrp]; rfl
    | throw => rw [qpv .throw rfl (by omega), Tm.zty]; simp only [zrp]; rfl
    | alt a b => rw [qev (.alt a b) rfl (by omega), Tm.qyt]; rfl
    | pair a b => rw [qev (.pair a b) rfl (by omega), Tm.qin]; rfl
    | fin s a => rw [yii (.fin s a) rfl (by omega), Tm.qys]; rfl
    | hand a b =>
      rw [Tm.zdn] at h
      have ha := ih a (by omega) (by omega)
      have hb := ih b (by omega) (by omega)
      have hsa := a.zhi
      rw [qev (.hand a b) rfl (by rw [Tm.zdn]; omega), Tm.zzy]
      simp only [Option.bind_some, show ix [a.row, b.row] 0 = a.row from rfl, show ix [a.row, b.row] 1 = b.row from rfl, show zaa 0 [a.row, b.row].length = true from rfl, show zaa 1 [a.row, b.row].length = true from rfl, ha, show (Tm.hand a b).t.hd = nd 8 from rfl, cond_true, cond_false, show (((nd 8).1 : Int) == 2) = false from rfl, show (((nd 8).1 : Int) == 3) = false from rfl, show (((nd 8).1 : Int) == 8) = true from rfl]
      rw [zqn]
      simp only [ybc, ybb, cond_true]
      generalize a.st = x at hsa
      have h8 : zbw (nd 8) [x.row, b.row] = some (Tm.hand x b).row := ydo 8 x b (by omega) (by omega)
      cases x <;> first | (simp only [h8]; rfl) | skip
      rename_i s
      simp only [Tm.hand', Tm.t, T.hd]
      by_cases hz : s = 2
      · subst hz
        simp only [hb, if_true, emp]; rfl
      · simp only [if_neg hz, int_eq, hz, decide_false, Bool.and_false, cond_false]; rfl
    | seq a b =>
      rw [Tm.zcs] at h
      have ha := ih a (by omega) (by omega)
      have hb := ih b (by omega) (by omega)
      have hsa := a.zhi
      have hsb := b.zhi
      rw [qev (.seq a b) rfl (by rw [Tm.zcs]; omega), Tm.qft]
      simp only [Option.bind_some, show ix [a.row, b.row] 0 = a.row from rfl, show ix [a.row, b.row] 1 = b.row from rfl, show zaa 0 [a.row, b.row].length = true from rfl, show zaa 1 [a.row, b.row].length = true from rfl, ha, hb, show (Tm.seq a b).t.hd = nd 5 from rfl, cond_true, cond_false, show (((nd 5).1 : Int) == 2) = false from rfl, show (((nd 5).1 : Int) == 3) = false from rfl, show (((nd 5).1 : Int) == 8) = false from rfl, show (((nd 5).1 : Int) == 5) = true from rfl, ybc, ybb]
      generalize a.st = x at hsa
      have h5 : zbw (nd 5) [x.row, b.row] = some (Tm.seq x b).row := ydo 5 x b (by omega) (by omega)
      cases x with
      | fin s c =>
        simp only [Tm.seq', Tm.t, T.hd, show ((14 : Int) != 14) = false from rfl, cond_false]
        by_cases hz : s = 1
        · subst hz
          rw [Tm.zfd] at hsa
          have hss := qdj b.st c (by omega) (by omega)
          simp only [show ((1 : Int) != 1) = false from rfl, cond_false, if_true, qhy, cond_true, qqm, hss, Option.bind_some]
        · have : (s != 1) = true := by simpa using hz
          simp only [this, cond_true, if_neg hz]
      | over s =>
        rw [zqn]
        simp only [ybc, ybb, cond_true, Tm.seq', Tm.t, T.hd]
        by_cases hz : s = 1
        · subst hz
          simp only [hb, if_true, emp]; rfl
        · simp only [if_neg hz, int_eq, hz, decide_false, Bool.and_false, cond_false]; rfl
      | _ =>
        rw [zqn]
        simp only [ybc, ybb, cond_true, h5]
        rfl
    | stack a c =>
      rw [Tm.zgf] at h
      have ha := ih a (by omega) (by omega)
      have hsa := a.zhi
      have hss := qdj a.st c (by omega) (by omega)
      rw [qev (.stack a c) rfl (by rw [Tm.zgf]; omega), Tm.qce]
      simp only [Option.bind_some, show ix [a.row, c.row] 0 = a.row from rfl, show ix [a.row, c.row] 1 = c.row from rfl, show zaa 0 [a.row, c.row].length = true from rfl, show zaa 1 [a.row, c.row].length = true from rfl, ha, hss]
      rfl
    | going a b =>
      rw [Tm.zez] at h
      have ha := ih a (by omega) (by omega)
      have hsa := a.zhi
      rw [qev (.going a b) rfl (by rw [Tm.zez]; omega), Tm.zxq]
      simp only [Option.bind_some, show ix [a.row, b.row] 0 = a.row from rfl, show ix [a.row, b.row] 1 = b.row from rfl, show zaa 0 [a.row, b.row].length = true from rfl, show zaa 1 [a.row, b.row].length = true from rfl, ha, qrs, show (Tm.going a b).t.hd = nd 12 from rfl, cond_true]
      generalize a.st = x at hsa
      have h12 : zbw (nd 12) [x.row, b.row] = some (Tm.going x b).row := ydo 12 x b (by omega) (by omega)
      cases x <;> first | (simp only [h12, ended]; rfl) | skip
      rename_i s
      simp only [Tm.qqa, ended]
      by_cases hz : s = 1
      · subst hz
        simp only [zue 1 b (by omega), if_true]; rfl
      · have e1 : (s != 1) = true := by simpa using hz
        have e2 : zlf s [nd 2] = some (Tm.fin s .skip).row := zue s .skip (by decide)
        have e3 : ix ([a.row, b.row].set 1 [(2, ByteArray.empty, 0)]) 1 = [nd 2] := rfl
        have e4 : zaa 1 ([a.row, b.row].set 1 [(2, ByteArray.empty, 0)]).length = true := rfl
        simp only [e1, e3, e4, e2, if_neg hz, cond_true]; rfl
    | par a b =>
      rw [Tm.zet] at h
      have ha := ih a (by omega) (by omega)
      have hb := ih b (by omega) (by omega)
      have hsa := a.zhi
      have hsb := b.zhi
      have hp := qyz a.st b.st (by omega) (by omega)
      rw [qev (.par a b) rfl (by rw [Tm.zet]; omega), Tm.qnf]
      simp only [Option.bind_some, show ix [a.row, b.row] 0 = a.row from rfl, show ix [a.row, b.row] 1 = b.row from rfl, show zaa 0 [a.row, b.row].length = true from rfl, show zaa 1 [a.row, b.row].length = true from rfl, ha, hb, show (Tm.par a b).t.hd = nd 7 from rfl, hp]
      rfl
    | block a =>
      rw [Tm.zbo] at h
      have ha := ih a (by omega) (by omega)
      have hsa := a.zhi
      rw [yii (.block a) rfl (by rw [Tm.zbo]; omega), Tm.ztz]
      simp only [Option.bind_some, show ix [a.row] 0 = a.row from rfl, show zaa 0 [a.row].length = true from rfl, ha, show (Tm.block a).t.hd = nd 9 from rfl, cond_true]
      rw [qod]
      simp only [ybc, ybb, cond_true]
      generalize a.st = x at hsa
      have h9 : zbw (nd 9) [x.row] = some (Tm.block x).row := qzi _ _ (by rw [Tm.zac]; omega)
      cases x <;> first | (simp only [h9]; rfl) | skip
      rename_i s c
      rw [Tm.zfd] at hsa
      have hc := ih c (by omega) (by omega)
      simp only [Tm.block', Tm.t, T.hd]
      by_cases hz : s = 1
      · subst hz
        simp only [zrp, if_true, emp]; rfl
      · by_cases hz2 : s = 2
        · subst hz2
          simp only [qhy, qqm, hc, emp]; rfl
        · simp only [if_neg hz, if_neg hz2, int_eq, hz, hz2, decide_false, Bool.and_false, cond_false, h9]; rfl
noncomputable def zgi (l : List Nd) : List Nd := match tmOf l with | some m => if m.po = true ∨ m.qo = true then m.st.row else [] | none => []
theorem yyu [Dfr] (m : Tm) : on m.so = 4 ↔ m.qo = true := by rw [Tm.ywx]; simp
theorem yxn [Dfr] (m : Tm) : on m.so = 3 ↔ m.po = true := by rw [Tm.yum]; simp
theorem zsm [Dfr] (l : List Nd) (hl : l.length ≤ 4611686018427387904) : zlg l = some (zgi l) := by
  rw [qlg]
  simp only [qnk l _ hl, Option.bind_some]
  unfold zgi sOf
  cases h : tmOf l with
  | none => rfl
  | some m =>
    obtain ⟨rfl, h2, h3⟩ := znl.1 h
    have hs := yqc m.size m (Nat.le_refl _) (by omega)
    have hsz := m.zhi
    have e1 : decide ((m.st.row.length : Int) > 200) = false := decide_eq_false (by rw [Tm.zac]; omega)
    have e2 : zav (0 + m.st.row.length) 32 = true := room (by rw [Tm.zac]; omega)
    simp only [hs, Option.bind_some, e1, e2, cond_true, cond_false, List.nil_append, yyu, yxn, if_true, if_false, Bool.false_eq_true]
    cases h1 : m.po <;> cases h2 : m.qo <;> simp
theorem zmm [Dfr] (l : List Nd) (hl : l.length ≤ 4611686018427387904) : zji l = some (decide (l ≠ [] ∧ zgi l = l)) := by
  rw [qir]
  cases l with
  | nil => rfl
  | cons x r =>
    have e1 : decide (((x :: r).length : Int) > 0) = true := decide_eq_true (by simp only [List.length_cons]; omega)
    have hlen : (zgi (x :: r)).length ≤ 4611686018427387904 := by
      unfold zgi
      split
      · rename_i m hm
        split
        · have := m.zhi
          have := (znl.1 hm).2.2
          rw [Tm.zac]; omega
        · simp
      · simp
    simp only [e1, cond_true, zsm _ hl, Option.bind_some, yhs _ _ hlen]
    simp
end Go.Proofs.YtjogkjgpbeenfaaGreatDoor.Sv
