/- The reference's traces and pairs of terms that are small; what is told of rows. -/
import Derived.Test.YtabhofdbgmdjkaaGreatDoorR07
namespace Go.Proofs.YtabhofdbgmdjkaaGreatDoor.Sv
open Go Go.Sv Go.Rd
set_option linter.unusedVariables false
set_option linter.unusedSimpArgs false
theorem cross_two5 [Dfr] (A B : List Tc) : crossL A B (twoF 5) = cross1 A B thenT := rfl
theorem cross_two7 [Dfr] (A B : List Tc) : crossL A B (twoF 7) = crossL A B fun p q => parE (bs p.2 q.2) p.1 q.1 := rfl
theorem cross_two8 [Dfr] (A B : List Tc) : crossL A B (twoF 8) = cross1 A B handF := rfl
theorem ref_s [Dfr] : ∀ m : Tm, m.small → (m.po = true → ref07_Traces m.row = some m.tr) ∧ (m.qo = true → ref07_Pairs m.row = some m.pq)
  | .act s, h => ⟨fun _ => by
      have hk := rkids0 (.act s) rfl (sm_size h)
      have hx : ix (Tm.act s).row 0 = (1, s, 0) := rfl
      have hi : idxOk 0 (Tm.act s).row.length = true := rfl
      rw [ref07_Traces_eq, hk]
      simp only [Option.bind_some, hx, hi, cond_true]
      rfl, fun h => by simp [Tm.qo] at h⟩
  | .skip, h => ⟨fun _ => by
      have hk := rkids0 .skip rfl (sm_size h)
      have hx : ix Tm.skip.row 0 = nd 2 := rfl
      have hi : idxOk 0 Tm.skip.row.length = true := rfl
      rw [ref07_Traces_eq, hk]
      simp only [Option.bind_some, hx, hi, cond_true, ref07_Ends_eq]
      rfl, fun h => by simp [Tm.qo] at h⟩
  | .throw, h => ⟨fun _ => by
      have hk := rkids0 .throw rfl (sm_size h)
      have hx : ix Tm.throw.row 0 = nd 3 := rfl
      have hi : idxOk 0 Tm.throw.row.length = true := rfl
      rw [ref07_Traces_eq, hk]
      simp only [Option.bind_some, hx, hi, cond_true, ref07_Ends_eq]
      rfl, fun h => by simp [Tm.qo] at h⟩
  | .yield, h => ⟨fun _ => by
      have hk := rkids0 .yield rfl (sm_size h)
      have hx : ix Tm.yield.row 0 = nd 4 := rfl
      have hi : idxOk 0 Tm.yield.row.length = true := rfl
      rw [ref07_Traces_eq, hk]
      simp only [Option.bind_some, hx, hi, cond_true, ref07_Ends_eq]
      rfl, fun h => by simp [Tm.qo] at h⟩
  | .over s, h => ⟨fun _ => by
      have hk := rkids0 (.over s) rfl (sm_size h)
      have hx : ix (Tm.over s).row 0 = (11, ByteArray.empty, s) := rfl
      have hi : idxOk 0 (Tm.over s).row.length = true := rfl
      rw [ref07_Traces_eq, hk]
      simp only [Option.bind_some, hx, hi, cond_true, ref07_Ends_eq]
      rfl, fun h => by simp [Tm.qo] at h⟩
  | .seq a b, h => by
    obtain ⟨ha, hb⟩ := sm2 h (Tm.size_seq a b) rfl
    have hk := rkids2 (.seq a b) rfl (sm_size h)
    have hx : ix (Tm.seq a b).row 0 = nd 5 := rfl
    have hi : idxOk 0 (Tm.seq a b).row.length = true := idxOk_zero (by rw [Tm.len_row]; exact Tm.size_pos _)
    have i0 : ix [a.row, b.row] 0 = a.row := rfl
    have i1 : ix [a.row, b.row] 1 = b.row := rfl
    have j0 : idxOk 0 [a.row, b.row].length = true := rfl
    have j1 : idxOk 1 [a.row, b.row].length = true := rfl
    have hbig := sm_big h
    refine ⟨fun ho => ?_, fun ho => ?_⟩
    · simp only [Tm.po, Bool.and_eq_true] at ho
      have ea := (ref_s a ha).1 ho.1
      have eb := (ref_s b hb).1 (Tm.po_of_pl ho.2)
      have hl := Tm.raw_cross (f := thenT) (Tm.len_sem a).1 (Tm.len_sem b).1 (m := .seq a b) rfl (Nat.le_refl _)
      have ec := ref07_two_s 5 (by decide) a.tr b.tr (by have := (sm_len ha).1; omega) (by have := (sm_len hb).1; omega) (fun p hp q hq => by have := sm_short ha p hp; have := sm_short hb q hq; omega) (by rw [cross_two5]; omega)
      have es := ref02_Set_s _ (crossL a.tr b.tr (twoF 5)) (Nat.le_refl _) (by rw [cross_two5]; omega) (fewT.short fun x hx => by
        rw [cross_two5] at hx
        obtain ⟨p, hp, q, hq, rfl⟩ := mem_cross1.1 hx
        have := sm_short ha p hp; have := sm_short hb q hq; have := len_then p q; omega)
      rw [ref07_Traces_eq, hk]
      simp only [Option.bind_some, hx, hi, cond_true, i0, i1, j0, j1, ea, eb, nd, ec, es]
      rfl
    · simp only [Tm.qo, Bool.and_eq_true] at ho
      have ea := (ref_s a ha).2 ho.1
      have eb := (ref_s b hb).2 (Tm.qo_of_pa ho.2)
      have hne := Tm.pq_ne ho.2
      have hle := len_seqR (A := a.pq) (B := b.pq) hne
      have hmul := Nat.le_trans (Nat.mul_le_mul (Tm.len_sem a).2 (Tm.len_sem b).2) (Tm.big_mul (a := a) (b := b) (m := .seq a b) rfl (Nat.le_refl _))
      have ec := ref07_seq_s a.pq b.pq (by have := (sm_len ha).2; omega) (by have := (sm_len hb).2; omega) (fun p hp q hq => by have := sm_shortQ ha p hp; have := sm_shortQ hb q hq; omega) (by omega)
      have es := ref07_Set_s _ (seqR a.pq b.pq) (Nat.le_refl _) (by omega) (fewQ.short fun x hx => by
        obtain ⟨p, hp, q, hq, rfl⟩ := mem_cross1.1 ((mem_seqR hne).1 hx)
        have := sm_shortQ ha p hp; have := sm_shortQ hb q hq
        unfold seqF
        split
        · have := len_then p.1 q.1; have := len_then q.2 p.2
          exact ⟨by show (thenT p.1 q.1).1.length ≤ 12; omega, by show (thenT q.2 p.2).1.length ≤ 12; omega⟩
        · exact ⟨by omega, by omega⟩)
      rw [canon_ext ordQ fun x => mem_seqR hne] at es
      rw [ref07_Pairs_eq, hk]
      simp only [Option.bind_some, hx, hi, cond_true, i0, i1, j0, j1, ea, eb, ec, es]
      rfl
  | .alt a b, h => by
    obtain ⟨ha, hb⟩ := sm2 h (Tm.size_alt a b) rfl
    have hk := rkids2 (.alt a b) rfl (sm_size h)
    have hx : ix (Tm.alt a b).row 0 = nd 6 := rfl
    have hi : idxOk 0 (Tm.alt a b).row.length = true := idxOk_zero (by rw [Tm.len_row]; exact Tm.size_pos _)
    have i0 : ix [a.row, b.row] 0 = a.row := rfl
    have i1 : ix [a.row, b.row] 1 = b.row := rfl
    have j0 : idxOk 0 [a.row, b.row].length = true := rfl
    have j1 : idxOk 1 [a.row, b.row].length = true := rfl
    have la := sm_len ha
    have lb := sm_len hb
    refine ⟨fun ho => ?_, fun ho => ?_⟩
    · simp only [Tm.po, Bool.and_eq_true] at ho
      have ea := (ref_s a ha).1 (Tm.po_of_pl ho.1)
      have eb := (ref_s b hb).1 (Tm.po_of_pl ho.2)
      have ec := ref07_two_alt a.tr b.tr (by omega)
      have es := ref02_Set_s _ (a.tr ++ b.tr) (Nat.le_refl _) (by rw [List.length_append]; omega) (fewT.short fun x hx => by
        rcases List.mem_append.1 hx with hx | hx
        · have := sm_short ha x hx; omega
        · have := sm_short hb x hx; omega)
      rw [ref07_Traces_eq, hk]
      simp only [Option.bind_some, hx, hi, cond_true, i0, i1, j0, j1, ea, eb, nd, ec, es]
      rfl
    · simp only [Tm.qo, Bool.and_eq_true] at ho
      have ea := (ref_s a ha).2 (Tm.qo_of_pa ho.1)
      have eb := (ref_s b hb).2 (Tm.qo_of_pa ho.2)
      have es := ref07_Set_s _ (a.pq ++ b.pq) (Nat.le_refl _) (by rw [List.length_append]; omega) (fewQ.short fun x hx => by
        rcases List.mem_append.1 hx with hx | hx
        · have := sm_shortQ ha x hx; omega
        · have := sm_shortQ hb x hx; omega)
      rw [ref07_Pairs_eq, hk]
      simp only [Option.bind_some, hx, hi, cond_true, i0, i1, j0, j1, ea, eb, List.nil_append, room (show (0 + a.pq.length) * 64 ≤ 140737488355328 by omega), room (show (a.pq.length + b.pq.length) * 64 ≤ 140737488355328 by omega), es]
      rfl
  | .par a b, h => by
    obtain ⟨ha, hb⟩ := sm2 h (Tm.size_par a b) rfl
    have hk := rkids2 (.par a b) rfl (sm_size h)
    have hx : ix (Tm.par a b).row 0 = nd 7 := rfl
    have hi : idxOk 0 (Tm.par a b).row.length = true := idxOk_zero (by rw [Tm.len_row]; exact Tm.size_pos _)
    have i0 : ix [a.row, b.row] 0 = a.row := rfl
    have i1 : ix [a.row, b.row] 1 = b.row := rfl
    have j0 : idxOk 0 [a.row, b.row].length = true := rfl
    have j1 : idxOk 1 [a.row, b.row].length = true := rfl
    have hbig := sm_big h
    refine ⟨fun ho => ?_, fun ho => ?_⟩
    · simp only [Tm.po, Bool.and_eq_true] at ho
      have ea := (ref_s a ha).1 ho.1
      have eb := (ref_s b hb).1 ho.2
      have hl := Tm.raw_par (Tm.len_sem a).1 (Tm.len_sem b).1
      have ec := ref07_two_s 7 (by decide) a.tr b.tr (by have := (sm_len ha).1; omega) (by have := (sm_len hb).1; omega) (fun p hp q hq => by have := sm_short ha p hp; have := sm_short hb q hq; omega) (by rw [cross_two7]; omega)
      have es := ref02_Set_s _ (crossL a.tr b.tr (twoF 7)) (Nat.le_refl _) (by rw [cross_two7]; omega) (fewT.short fun x hx => by
        rw [cross_two7] at hx
        obtain ⟨p, hp, q, hq, hx⟩ := mem_crossL.1 hx
        have := (mem_parE.1 hx).1.len
        have := sm_short ha p hp; have := sm_short hb q hq; omega)
      rw [ref07_Traces_eq, hk]
      simp only [Option.bind_some, hx, hi, cond_true, i0, i1, j0, j1, ea, eb, nd, ec, es]
      rfl
    · simp only [Tm.qo, Bool.and_eq_true] at ho
      have ea := (ref_s a ha).2 ho.1
      have eb := (ref_s b hb).2 ho.2
      have hl := Tm.raw_parQ (Tm.len_sem a).2 (Tm.len_sem b).2
      have ec := ref07_par_s a.pq b.pq (by have := (sm_len ha).2; omega) (by have := (sm_len hb).2; omega) (fun p hp q hq => by have := sm_shortQ ha p hp; have := sm_shortQ hb q hq; omega) (by omega)
      have es := ref07_Set_s _ (crossL a.pq b.pq parF) (Nat.le_refl _) (by omega) (fewQ.short fun x hx => by
        obtain ⟨p, hp, q, hq, hx⟩ := mem_crossL.1 hx
        obtain ⟨⟨h1, _⟩, h2, _⟩ := Tm.mem_parF.1 hx
        have := h1.len; have := h2.len
        have := sm_shortQ ha p hp; have := sm_shortQ hb q hq; omega)
      rw [ref07_Pairs_eq, hk]
      simp only [Option.bind_some, hx, hi, cond_true, i0, i1, j0, j1, ea, eb, ec, es]
      rfl
  | .hand a b, h => by
    obtain ⟨ha, hb⟩ := sm2 h (Tm.size_hand a b) rfl
    have hk := rkids2 (.hand a b) rfl (sm_size h)
    have hx : ix (Tm.hand a b).row 0 = nd 8 := rfl
    have hi : idxOk 0 (Tm.hand a b).row.length = true := idxOk_zero (by rw [Tm.len_row]; exact Tm.size_pos _)
    have i0 : ix [a.row, b.row] 0 = a.row := rfl
    have i1 : ix [a.row, b.row] 1 = b.row := rfl
    have j0 : idxOk 0 [a.row, b.row].length = true := rfl
    have j1 : idxOk 1 [a.row, b.row].length = true := rfl
    have hbig := sm_big h
    refine ⟨fun ho => ?_, fun ho => by simp [Tm.qo] at ho⟩
    simp only [Tm.po, Bool.and_eq_true] at ho
    have ea := (ref_s a ha).1 ho.1
    have eb := (ref_s b hb).1 (Tm.po_of_pl ho.2)
    have hl := Tm.raw_cross (f := handF) (Tm.len_sem a).1 (Tm.len_sem b).1 (m := .hand a b) rfl (Nat.le_refl _)
    have ec := ref07_two_s 8 (by decide) a.tr b.tr (by have := (sm_len ha).1; omega) (by have := (sm_len hb).1; omega) (fun p hp q hq => by have := sm_short ha p hp; have := sm_short hb q hq; omega) (by rw [cross_two8]; omega)
    have es := ref02_Set_s _ (crossL a.tr b.tr (twoF 8)) (Nat.le_refl _) (by rw [cross_two8]; omega) (fewT.short fun x hx => by
      rw [cross_two8] at hx
      obtain ⟨p, hp, q, hq, rfl⟩ := mem_cross1.1 hx
      have := sm_short ha p hp; have := sm_short hb q hq
      unfold handF behT
      split
      · simp only [List.length_append]; omega
      · omega)
    rw [ref07_Traces_eq, hk]
    simp only [Option.bind_some, hx, hi, cond_true, i0, i1, j0, j1, ea, eb, nd, ec, es]
    rfl
  | .block a, h => by
    have ha := sm1 h (Tm.size_block a) rfl
    have hk := rkids1 (.block a) rfl (sm_size h)
    have hx : ix (Tm.block a).row 0 = nd 9 := rfl
    have hi : idxOk 0 (Tm.block a).row.length = true := idxOk_zero (by rw [Tm.len_row]; exact Tm.size_pos _)
    have i0 : ix [a.row] 0 = a.row := rfl
    have j0 : idxOk 0 [a.row].length = true := rfl
    have la := (sm_len ha).2
    refine ⟨fun ho => ?_, fun ho => by simp [Tm.qo] at ho⟩
    simp only [Tm.po] at ho
    have ea := (ref_s a ha).2 ho
    have ec := ref07_block_s a.pq (by omega) (fun x hx => by have := sm_shortQ ha x hx; omega)
    have hl := Tm.raw_block (Q := a.pq)
    have es := ref02_Set_s _ (a.pq.flatMap blkF) (Nat.le_refl _) (by omega) (fewT.short fun x hx => by
      obtain ⟨z, hz, hx⟩ := List.mem_flatMap.1 hx
      have := sm_shortQ ha z hz
      rcases Tm.mem_blkF.1 hx with ⟨_, rfl⟩ | ⟨_, rfl⟩
      · omega
      · unfold behT; simp only [List.length_append]; omega)
    rw [ref07_Traces_eq, hk]
    simp only [Option.bind_some, hx, hi, cond_true, i0, j0, ea, ec, es]
    rfl
  | .pair a b, h => by
    obtain ⟨ha, hb⟩ := sm2 h (Tm.size_pair a b) rfl
    have hk := rkids2 (.pair a b) rfl (sm_size h)
    have hx : ix (Tm.pair a b).row 0 = nd 10 := rfl
    have hi : idxOk 0 (Tm.pair a b).row.length = true := idxOk_zero (by rw [Tm.len_row]; exact Tm.size_pos _)
    have i0 : ix [a.row, b.row] 0 = a.row := rfl
    have i1 : ix [a.row, b.row] 1 = b.row := rfl
    have j0 : idxOk 0 [a.row, b.row].length = true := rfl
    have j1 : idxOk 1 [a.row, b.row].length = true := rfl
    have hbig := sm_big h
    refine ⟨fun ho => by simp [Tm.po] at ho, fun ho => ?_⟩
    simp only [Tm.qo, Bool.and_eq_true] at ho
    have ea := (ref_s a ha).1 (Tm.po_of_pl ho.1)
    have eb := (ref_s b hb).1 (Tm.po_of_pl ho.2)
    have hne := Tm.tr_ne ho.2
    have hle := len_goR (A := a.tr) (B := b.tr) hne
    have hmul := Nat.le_trans (Nat.mul_le_mul (Tm.len_sem a).1 (Tm.len_sem b).1) (Tm.big_mul (a := a) (b := b) (m := .pair a b) rfl (by rw [Tm.cw]; omega))
    have ec := ref07_going_s a.tr b.tr (by have := (sm_len ha).1; omega) (by have := (sm_len hb).1; omega) (by omega)
    have es := ref07_Set_s _ (goR a.tr b.tr ++ [(([], 3), ([], 1))]) (Nat.le_refl _) (by rw [List.length_append, List.length_singleton]; omega) (fewQ.short fun x hx => by
      rcases List.mem_append.1 hx with hx | hx
      · obtain ⟨p, hp, q, hq, rfl⟩ := mem_cross1.1 ((mem_goR hne).1 hx)
        have := sm_short ha p hp; have := sm_short hb q hq
        refine ⟨by show p.1.length ≤ 12; omega, ?_⟩
        show (if p.2 = 1 then q else ([], 1)).1.length ≤ 12
        split
        · omega
        · simp
      · rw [List.mem_singleton.1 hx]; simp)
    rw [canon_ext ordQ (m := cross1 a.tr b.tr goF ++ [(([], 3), ([], 1))]) fun x => by rw [List.mem_append, List.mem_append, mem_goR hne]] at es
    rw [ref07_Pairs_eq, hk]
    simp only [Option.bind_some, hx, hi, cond_true, i0, i1, j0, j1, ea, eb, ec, ref07_Ends_eq, room (show ((goR a.tr b.tr).length + 1) * 64 ≤ 140737488355328 by omega), es]
    rfl
  | .going a b, h => by
    obtain ⟨ha, hb⟩ := sm2 h (Tm.size_going a b) rfl
    have hk := rkids2 (.going a b) rfl (sm_size h)
    have hx : ix (Tm.going a b).row 0 = nd 12 := rfl
    have hi : idxOk 0 (Tm.going a b).row.length = true := idxOk_zero (by rw [Tm.len_row]; exact Tm.size_pos _)
    have i0 : ix [a.row, b.row] 0 = a.row := rfl
    have i1 : ix [a.row, b.row] 1 = b.row := rfl
    have j0 : idxOk 0 [a.row, b.row].length = true := rfl
    have j1 : idxOk 1 [a.row, b.row].length = true := rfl
    have hbig := sm_big h
    refine ⟨fun ho => by simp [Tm.po] at ho, fun ho => ?_⟩
    simp only [Tm.qo, Bool.and_eq_true] at ho
    have ea := (ref_s a ha).1 ho.1
    have eb := (ref_s b hb).1 (Tm.po_of_pl ho.2)
    have hne := Tm.tr_ne ho.2
    have hle := len_goR (A := a.tr) (B := b.tr) hne
    have hmul := Nat.le_trans (Nat.mul_le_mul (Tm.len_sem a).1 (Tm.len_sem b).1) (Tm.big_mul (a := a) (b := b) (m := .going a b) rfl (Nat.le_refl _))
    have ec := ref07_going_s a.tr b.tr (by have := (sm_len ha).1; omega) (by have := (sm_len hb).1; omega) (by omega)
    have es := ref07_Set_s _ (goR a.tr b.tr) (Nat.le_refl _) (by omega) (fewQ.short fun x hx => by
      obtain ⟨p, hp, q, hq, rfl⟩ := mem_cross1.1 ((mem_goR hne).1 hx)
      have := sm_short ha p hp; have := sm_short hb q hq
      refine ⟨by show p.1.length ≤ 12; omega, ?_⟩
      show (if p.2 = 1 then q else ([], 1)).1.length ≤ 12
      split
      · omega
      · simp)
    rw [canon_ext ordQ fun x => mem_goR hne] at es
    rw [ref07_Pairs_eq, hk]
    simp only [Option.bind_some, hx, hi, cond_true, i0, i1, j0, j1, ea, eb, ec, es]
    rfl
  | .stack a c, h => by
    obtain ⟨ha, hb⟩ := sm2 h (Tm.size_stack a c) rfl
    have hk := rkids2 (.stack a c) rfl (sm_size h)
    have hx : ix (Tm.stack a c).row 0 = nd 13 := rfl
    have hi : idxOk 0 (Tm.stack a c).row.length = true := idxOk_zero (by rw [Tm.len_row]; exact Tm.size_pos _)
    have i0 : ix [a.row, c.row] 0 = a.row := rfl
    have i1 : ix [a.row, c.row] 1 = c.row := rfl
    have j0 : idxOk 0 [a.row, c.row].length = true := rfl
    have j1 : idxOk 1 [a.row, c.row].length = true := rfl
    have hbig := sm_big h
    refine ⟨fun ho => by simp [Tm.po] at ho, fun ho => ?_⟩
    simp only [Tm.qo, Bool.and_eq_true] at ho
    have ea := (ref_s a ha).2 ho.1
    have eb := (ref_s c hb).1 (Tm.po_of_pl ho.2)
    have hl := Tm.raw_cross (f := fun (x : Qc) (q : Tc) => (x.1, thenT x.2 q)) (Tm.len_sem a).2 (Tm.len_sem c).1 (m := .stack a c) rfl (Nat.le_refl _)
    have hmul := Nat.le_trans (Nat.mul_le_mul (Tm.len_sem a).2 (Tm.len_sem c).1) (Tm.big_mul (a := a) (b := c) (m := .stack a c) rfl (Nat.le_refl _))
    have ec := ref07_stack_s a.pq c.tr (by have := (sm_len ha).2; omega) (by have := (sm_len hb).1; omega) (fun p hp q hq => by have := sm_shortQ ha p hp; have := sm_short hb q hq; omega) (by omega)
    have es := ref07_Set_s _ (cross1 a.pq c.tr fun (x : Qc) (q : Tc) => (x.1, thenT x.2 q)) (Nat.le_refl _) (by omega) (fewQ.short fun x hx => by
      obtain ⟨p, hp, q, hq, rfl⟩ := mem_cross1.1 hx
      have := sm_shortQ ha p hp; have := sm_short hb q hq; have := len_then p.2 q
      exact ⟨by show p.1.1.length ≤ 12; omega, by show (thenT p.2 q).1.length ≤ 12; omega⟩)
    rw [ref07_Pairs_eq, hk]
    simp only [Option.bind_some, hx, hi, cond_true, i0, i1, j0, j1, ea, eb, ec, es]
    rfl
  | .fin s c, h => by
    have ha := sm1 h (Tm.size_fin s c) rfl
    have hk := rkids1 (.fin s c) rfl (sm_size h)
    have hx : ix (Tm.fin s c).row 0 = (14, ByteArray.empty, s) := rfl
    have hi : idxOk 0 (Tm.fin s c).row.length = true := idxOk_zero (by rw [Tm.len_row]; exact Tm.size_pos _)
    have i0 : ix [c.row] 0 = c.row := rfl
    have j0 : idxOk 0 [c.row].length = true := rfl
    have la := (sm_len ha).1
    refine ⟨fun ho => by simp [Tm.po] at ho, fun ho => ?_⟩
    simp only [Tm.qo] at ho
    have ea := (ref_s c ha).1 (Tm.po_of_pl ho)
    have ec := ref07_end_s s c.tr (by omega)
    have es := ref07_Set_s _ (c.tr.map fun q => (([], s), q)) (Nat.le_refl _) (by rw [List.length_map]; omega) (fewQ.short fun x hx => by
      obtain ⟨q, hq, rfl⟩ := List.mem_map.1 hx
      have := sm_short ha q hq
      exact ⟨by simp, by show q.1.length ≤ 12; omega⟩)
    rw [ref07_Pairs_eq, hk]
    simp only [Option.bind_some, hx, hi, cond_true, i0, j0, ea, ec, es]
    rfl
end Go.Proofs.YtabhofdbgmdjkaaGreatDoor.Sv
