/- StepBeside: what it tells. -/
import Derived.Test.YtjogkjgpbeenfaaDoorL13d
namespace Go.Proofs.YtjogkjgpbeenfaaDoor.Sv
open Go Go.Sv Go.Rd
set_option linter.unusedVariables false
set_option linter.unusedSimpArgs false
theorem free_cx [Dfr] (c : Cx) (u : Tm) : freeT (c.fill u).t c.pos = (!c.bsd.2 || c.bsd.1.any dmL) := by
  have := Cx.bsd_path u c 0
  rw [Nat.zero_add] at this
  unfold freeT
  rw [this]
theorem free_parL [Dfr] {c : Cx} {u b : Tm} (h : freeT (c.fill u).t c.pos = true) (v : Tm) : freeT ((Cx.parL c b).fill v).t (Cx.parL c b).pos = true := by
  rw [free_cx] at h ⊢
  simp only [Cx.bsd]
  split
  · rename_i e
    rw [e] at h
    exact h
  · rfl
theorem free_parR [Dfr] {c : Cx} {u a : Tm} (h : freeT (c.fill u).t c.pos = true) (v : Tm) : freeT ((Cx.parR a c).fill v).t (Cx.parR a c).pos = true := by
  rw [free_cx] at h ⊢
  simp only [Cx.bsd]
  split
  · rename_i e
    rw [e] at h
    exact h
  · rfl
theorem mvsAt_more [Dfr] {kd k k' how : Int} {f f' : Bool} (hf : f = true → f' = true) (h : (k, how) ∈ mvsAt kd k f) : (k', how) ∈ mvsAt kd k' f' := by
  unfold mvsAt at h ⊢
  split
  · rename_i e; rw [if_pos e] at h; simpa using h
  · rename_i e1
    rw [if_neg e1] at h
    split
    · rename_i e; rw [if_pos e] at h; simpa using h
    · rename_i e2
      rw [if_neg e2] at h
      rcases List.mem_cons.1 h with h | h
      · exact List.mem_cons.2 (.inl (by simpa using h))
      · split at h
        · rename_i e3
          rw [if_pos (hf e3)]
          exact List.mem_cons_of_mem _ (by simpa using h)
        · cases h
theorem pick_mem [Dfr] {l : List Nd} {z : Int} (h : (pickL (enL l) z).2 = 0) : (pickL (enL l) z).1 ∈ enL l := by
  unfold pickL at h ⊢
  by_cases he : enL l = []
  · rw [if_pos he] at h; cases h
  · rw [if_neg he]
    have hpos := List.length_pos_iff.2 he
    have := (pickI_lt z hpos).1
    show (enL l).getD (pickI z (enL l).length) default ∈ enL l
    rw [List.getD_eq_getElem?_getD, List.getElem?_eq_getElem this]
    exact List.getElem_mem this
/-- Two side by side, of which both wait: the one moves, then the other one; or the other way round. -/
theorem two_moves [Dfr] {ca cb : Cx} {ua ub : Tm} {ha hb : Int} (sa : setL (ca.fill ua).row) (sb : setL (cb.fill ub).row) (wa : ua.Wt) (wb : ub.Wt)
    (ia : ((ca.pos : Int), ha) ∈ mvsAt ua.t.hd.1 (ca.pos : Int) (freeT (ca.fill ua).t ca.pos)) (ib : ((cb.pos : Int), hb) ∈ mvsAt ub.t.hd.1 (cb.pos : Int) (freeT (cb.fill ub).t cb.pos))
    (pa : (ca.fill ua).po = true) (pb : (cb.fill ub).po = true) (hz : (ca.fill ua).size + (cb.fill ub).size ≤ 90) :
    ∃ a' b' : Tm, a'.size ≤ (ca.fill ua).size ∧ b'.size ≤ (cb.fill ub).size ∧
      nextL (Tm.par (ca.fill ua) (cb.fill ub)).row ((ca.pos + 1 : Nat), ha) = ((Tm.par a' (cb.fill ub)).row, ua.t.hd.2.1, 0) ∧
      nextL (Tm.par (ca.fill ua) (cb.fill ub)).row ((cb.pos + 1 + (ca.fill ua).size : Nat), hb) = ((Tm.par (ca.fill ua) b').row, ub.t.hd.2.1, 0) ∧
      nextL (Tm.par a' (cb.fill ub)).row ((cb.pos + 1 + a'.size : Nat), hb) = ((Tm.par' a' b').row, ub.t.hd.2.1, 0) ∧
      nextL (Tm.par (ca.fill ua) b').row ((ca.pos + 1 : Nat), ha) = ((Tm.par' a' b').row, ua.t.hd.2.1, 0) := by
  obtain ⟨fa, za, oa, ta⟩ := set_row sa
  obtain ⟨fb, zb, ob, tb⟩ := set_row sb
  obtain ⟨na1, na2, na3, na4, _⟩ := next_cx sa wa ia
  obtain ⟨nb1, nb2, nb3, nb4, _⟩ := next_cx sb wb ib
  obtain ⟨oA, fA⟩ := Cx.fill_no wa ca
  obtain ⟨oB, fB⟩ := Cx.fill_no wb cb
  have ga := Tm.st_size (ca.fill (ua.mdT ha))
  have gb := Tm.st_size (cb.fill (ub.mdT hb))
  have ffa := Tm.st_fine na2
  have ffb := Tm.st_fine nb2
  have ppa := Tm.st_po (na4 pa)
  have ppb := Tm.st_po (nb4 pb)
  have tta := Tm.st_st (ca.fill (ua.mdT ha))
  have ttb := Tm.st_st (cb.fill (ub.mdT hb))
  have set2 : ∀ (x y : Tm), x.fine → y.fine → x.size + y.size ≤ 90 → x.po = true → y.po = true → x.st = x → y.st = y → (Tm.par' x y = Tm.par x y) → setL (Tm.par x y).row := fun x y h1 h2 h3 h4 h5 h6 h7 h8 =>
    term_set (show (Tm.par x y).fine from ⟨h1, h2⟩) (by rw [Tm.size_par]; omega) (.inl (by simp only [Tm.po, h4, h5, Bool.and_self])) (by rw [Tm.st_par, h6, h7, h8])
  have s1 := set2 (ca.fill ua) (cb.fill ub) fa fb hz pa pb ta tb (Cx.par_noL _ _ oA fA)
  have s2 := set2 (ca.fill (ua.mdT ha)).st (cb.fill ub) ffa fb (by omega) ppa pb tta tb (Cx.par_noR _ _ oB fB)
  have s3 := set2 (ca.fill ua) (cb.fill (ub.mdT hb)).st fa ffb (by omega) pa ppb ta ttb (Cx.par_noL _ _ oA fA)
  refine ⟨(ca.fill (ua.mdT ha)).st, (cb.fill (ub.mdT hb)).st, by omega, by omega, ?_, ?_, ?_, ?_⟩
  · have := (next_cx (c := .parL ca (cb.fill ub)) (how := ha) s1 wa (mvsAt_more (fun h => free_parL h ua) ia)).1
    refine this.trans ?_
    show ((Tm.par (ca.fill (ua.mdT ha)) (cb.fill ub)).st.row, _, _) = _
    rw [Tm.st_par, tb, Cx.par_noR _ _ oB fB]
  · have := (next_cx (c := .parR (ca.fill ua) cb) (how := hb) s1 wb (mvsAt_more (fun h => free_parR h ub) ib)).1
    refine this.trans ?_
    show ((Tm.par (ca.fill ua) (cb.fill (ub.mdT hb))).st.row, _, _) = _
    rw [Tm.st_par, ta, Cx.par_noL _ _ oA fA]
  · have := (next_cx (c := .parR (ca.fill (ua.mdT ha)).st cb) (how := hb) s2 wb (mvsAt_more (fun h => free_parR h ub) ib)).1
    refine this.trans ?_
    show ((Tm.par (ca.fill (ua.mdT ha)).st (cb.fill (ub.mdT hb))).st.row, _, _) = _
    rw [Tm.st_par, tta]
  · have := (next_cx (c := .parL ca (cb.fill (ub.mdT hb)).st) (how := ha) s3 wa (mvsAt_more (fun h => free_parL h ua) ia)).1
    refine this.trans ?_
    show ((Tm.par (ca.fill (ua.mdT ha)) (cb.fill (ub.mdT hb)).st).st.row, _, _) = _
    rw [Tm.st_par, ttb]
theorem sort_po [Dfr] {m : Tm} (hf : m.fine) (hz : m.size ≤ 200) (h : on (sOf m.row) = 3) : m.po = true := by
  rw [sOf_row hf hz] at h
  exact (on_po m).1 h
theorem law13_StepBeside_true [Dfr] [HasOver] [HasWays] [HasPut] (la lb : List Nd) (z : Mv) (hla : wfRow la) (hlb : wfRow lb) (hzw : (Ty.pair (.int .i64) (.int .i64)).wf z) : law13_StepBeside la lb z = some true := by
  rw [law13_StepBeside_eq, law13_few_s, Option.bind_some]
  by_cases hf : la.length ≤ 100 ∧ dep la ≤ 24
  · rw [decide_eq_true hf]
    simp only [Bool.not_true, cond_false, law13_alive_s, Option.bind_some, cond_true, law13_few_s]
    by_cases hg : lb.length ≤ 100 ∧ dep lb ≤ 24
    · rw [decide_eq_true hg, w64_id (by omega) (by omega)]
      simp only [Bool.not_true, cond_false]
      by_cases h90 : la.length + lb.length ≤ 90
      · rw [decide_eq_false (show ¬ ((la.length : Int) + (lb.length : Int) > 90) by omega)]
        simp only [cond_false, sort_On_s _ _ (show la.length ≤ 4611686018427387904 by omega), sort_On_s _ _ (show lb.length ≤ 4611686018427387904 by omega), settle_Settled_s _ (show la.length ≤ 4611686018427387904 by omega), settle_Settled_s _ (show lb.length ≤ 4611686018427387904 by omega), Option.bind_some, Bool.false_eq_true, if_false]
        by_cases k1 : on (sOf la) = 3
        · rw [decide_eq_true k1]
          by_cases k2 : on (sOf lb) = 3
          · rw [decide_eq_true k2]
            by_cases s1 : la ≠ [] ∧ settleR la = la
            · rw [decide_eq_true s1]
              by_cases s2 : lb ≠ [] ∧ settleR lb = lb
              · rw [decide_eq_true s2]
                simp only [Bool.not_true, cond_false, move_Pick_s _ _ (show la.length ≤ 1000000 by omega), move_Pick_s _ _ (show lb.length ≤ 1000000 by omega), Option.bind_some]
                by_cases p1 : (pickL (enL la) z.1).2 = 0
                · by_cases p2 : (pickL (enL lb) z.2).2 = 0
                  · have m1 := pick_mem p1
                    have m2 := pick_mem p2
                    generalize pickL (enL la) z.1 = P at p1 m1 ⊢
                    generalize pickL (enL lb) z.2 = Q at p2 m2 ⊢
                    obtain ⟨⟨ma, ha⟩, ea⟩ := P
                    obtain ⟨⟨mb, hb⟩, eb⟩ := Q
                    obtain ⟨a, haa, fa, za, _, _, _⟩ := set_term s1
                    obtain ⟨b, hbb, fb, zb, _, _, _⟩ := set_term s2
                    subst haa
                    subst hbb
                    obtain ⟨ca, ua, ea', wa, q1, ia⟩ := en_cx m1
                    obtain ⟨cb, ub, eb', wb, q2, ib⟩ := en_cx m2
                    subst ea'
                    subst eb'
                    have q1 : ma = (ca.pos : Int) := q1
                    have q2 : mb = (cb.pos : Int) := q2
                    have p1 : ea = 0 := p1
                    have p2 : eb = 0 := p2
                    subst q1
                    subst q2
                    subst p1
                    subst p2
                    have la1 := Tm.len_row (ca.fill ua)
                    have lb1 := Tm.len_row (cb.fill ub)
                    obtain ⟨a', b', r1, r2, n1, n2, n3, n4⟩ := two_moves s1 s2 wa wb ia ib (sort_po fa za k1) (sort_po fb zb k2) (by omega)
                    have hT : ref03_Two (7, ByteArray.empty, 0) (ca.fill ua).row (cb.fill ub).row = some (Tm.par (ca.fill ua) (cb.fill ub)).row := ref03_Two_s _ _ _ (by omega) (by omega)
                    have pa := pos_fill ca ua
                    have pb := pos_fill cb ub
                    have z0 : (Tm.par (ca.fill ua) (cb.fill ub)).row.length = (ca.fill ua).size + (cb.fill ub).size + 1 := by rw [Tm.len_row, Tm.size_par]
                    have z1 : (Tm.par a' (cb.fill ub)).row.length = a'.size + (cb.fill ub).size + 1 := by rw [Tm.len_row, Tm.size_par]
                    have z2 : (Tm.par (ca.fill ua) b').row.length = (ca.fill ua).size + b'.size + 1 := by rw [Tm.len_row, Tm.size_par]
                    have z3 := Tm.par'_size a' b'
                    have w1 : w64 ((ca.pos : Int) + 1) = ((ca.pos + 1 : Nat) : Int) := w_succ (by omega)
                    have w2 : w64 ((cb.pos : Int) + 1) = ((cb.pos + 1 : Nat) : Int) := w_succ (by omega)
                    have w3 : w64 (((cb.pos + 1 : Nat) : Int) + ((ca.fill ua).row.length : Int)) = ((cb.pos + 1 + (ca.fill ua).size : Nat) : Int) := by rw [la1, w64_id (by omega) (by omega)]; omega
                    have w4 : w64 (w64 (((cb.pos + 1 + (ca.fill ua).size : Nat) : Int) + ((Tm.par a' (cb.fill ub)).row.length : Int)) - ((Tm.par (ca.fill ua) (cb.fill ub)).row.length : Int)) = ((cb.pos + 1 + a'.size : Nat) : Int) := by
                      rw [z0, z1, w64_id (n := ((cb.pos + 1 + (ca.fill ua).size : Nat) : Int) + _) (by omega) (by omega), w64_id (by omega) (by omega)]; omega
                    simp only [bne_self_eq_false, cond_false, hT, Option.bind_some, w1, w2, w3, step_Next_s _ _ (show (Tm.par (ca.fill ua) (cb.fill ub)).row.length ≤ 400000 by omega), n1, n2, w4, step_Next_s _ _ (show (Tm.par a' (cb.fill ub)).row.length ≤ 400000 by omega), step_Next_s _ _ (show (Tm.par (ca.fill ua) b').row.length ≤ 400000 by omega), n3, n4, beq_self_eq_true, cond_true,
                      ref03_Same_s _ _ (show (Tm.par' a' b').row.length ≤ 4611686018427387904 by rw [Tm.len_row]; omega), decide_true]
                  · rw [show ((pickL (enL la) z.1).2 != 0) = false by rw [p1]; rfl, show ((pickL (enL lb) z.2).2 != 0) = true by rw [bne_iff_ne]; exact p2]; rfl
                · rw [show ((pickL (enL la) z.1).2 != 0) = true by rw [bne_iff_ne]; exact p1]; rfl
              · rw [decide_eq_false s2]; rfl
            · rw [decide_eq_false s1]; rfl
          · rw [decide_eq_false k2]; rfl
        · rw [decide_eq_false k1]; rfl
      · rw [decide_eq_true (show ((la.length : Int) + (lb.length : Int) > 90) by omega)]
        rfl
    · rw [decide_eq_false hg]; rfl
  · rw [decide_eq_false hf]
    simp only [Bool.not_false, cond_true, law13_alive_s, Option.bind_some]
end Go.Proofs.YtjogkjgpbeenfaaDoor.Sv
