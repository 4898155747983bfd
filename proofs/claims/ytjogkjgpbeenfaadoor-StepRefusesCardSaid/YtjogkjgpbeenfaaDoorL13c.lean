/- StepKinds: what it tells. -/
import Derived.Test.YtjogkjgpbeenfaaDoorL13
import Derived.Test.YtjogkjgpbeenfaaDoorL10
import Derived.Test.YtjogkjgpbeenfaaDoorM15
namespace Go.Proofs.YtjogkjgpbeenfaaDoor.Sv
open Go Go.Sv Go.Rd
set_option linter.unusedVariables false
set_option linter.unusedSimpArgs false
/-- What stands in a place's stead behind a move, as a term. -/
theorem made_term [Dfr] {u : Tm} (hu : u.Wt) {how : Int} {r : List Nd} {k : Int} {f : Bool} (hin : (k, how) ∈ mvsAt u.t.hd.1 k f) : ∃ x : Tm, madeR (u.row ++ r) how = x.row ∧ (u.po = true → x.po = true) ∧ (u.qo = true → x.qo = true) ∧ (u.fine → x.fine) ∧ x.size ≤ u.size := by
  have hk : kidsR (u.row ++ r) = u.t.kids.map T.row := by unfold kidsR; rw [show u.row = u.t.row from rfl, P_row (Tm.t_ok u)]
  rcases hu with ⟨s, rfl⟩ | ⟨a, b, rfl⟩ | rfl | ⟨a, b, rfl⟩
  · have h1 : how = 1 := by simpa [mvsAt, Tm.t, T.hd] using hin
    subst h1
    exact ⟨.over 1, rfl, fun _ => rfl, fun h => by simp [Tm.qo] at h, fun _ => by show signB 1 = true; decide, Nat.le_refl _⟩
  · have h1 : how = 2 ∨ how = 3 := by simpa [mvsAt, Tm.t, T.hd] using hin
    rcases h1 with rfl | rfl
    · refine ⟨a, ?_, fun h => ?_, fun h => ?_, fun h => h.1, by rw [Tm.size_alt]; omega⟩
      · unfold madeR; rw [if_pos rfl, hk]; rfl
      · simp only [Tm.po, Bool.and_eq_true] at h; exact Tm.po_of_pl h.1
      · simp only [Tm.qo, Bool.and_eq_true] at h; exact Tm.qo_of_pa h.1
    · refine ⟨b, ?_, fun h => ?_, fun h => ?_, fun h => h.2, by rw [Tm.size_alt]; omega⟩
      · unfold madeR; rw [if_neg (by decide), if_pos rfl, hk]; rfl
      · simp only [Tm.po, Bool.and_eq_true] at h; exact Tm.po_of_pl h.2
      · simp only [Tm.qo, Bool.and_eq_true] at h; exact Tm.qo_of_pa h.2
  · have h1 : how = 4 ∨ how = 5 := by
      cases f <;> simp [mvsAt, Tm.t, T.hd] at hin <;> omega
    rcases h1 with rfl | rfl
    · exact ⟨.over 1, rfl, fun _ => rfl, fun h => by simp [Tm.qo] at h, fun _ => by show signB 1 = true; decide, Nat.le_refl _⟩
    · exact ⟨.over 3, rfl, fun _ => rfl, fun h => by simp [Tm.qo] at h, fun _ => by show signB 3 = true; decide, Nat.le_refl _⟩
  · have h1 : how = 4 ∨ how = 5 := by
      cases f <;> simp [mvsAt, Tm.t, T.hd] at hin <;> omega
    rcases h1 with rfl | rfl
    · refine ⟨.going a b, ?_, fun h => by simp [Tm.po] at h, fun h => ?_, fun h => h, Nat.le_refl _⟩
      · unfold madeR
        rw [if_neg (by decide), if_neg (by decide), if_neg (by decide), if_pos (show (ix ((Tm.pair a b).row ++ r) 0).1 = 10 from rfl), hk]
        show _ :: (a.t.row ++ (b.t.row ++ [])) = _
        rw [List.append_nil]; rfl
      · simp only [Tm.qo, Bool.and_eq_true] at h ⊢; exact ⟨Tm.po_of_pl h.1, h.2⟩
    · refine ⟨.fin 3 .skip, rfl, fun h => by simp [Tm.po] at h, fun _ => rfl, fun _ => ⟨by show signB 3 = true; decide, trivial⟩, ?_⟩
      have h1 : 0 < a.size := by rw [← Tm.len_row]; exact List.length_pos_iff.2 (Tm.row_ne a)
      have h2 : (Tm.fin 3 .skip).size = 2 := rfl
      have h3 : (Tm.pair a b).size = a.size + b.size + 1 := rfl
      omega
/-- A move goes on: what it leaves is settled, and of the kind. -/
theorem next_kind [Dfr] {l : List Nd} {m : Mv} (hm : m ∈ enL l) : ∃ n n' : Tm, l = n.row ∧ sOf l = n.so ∧ (nextL l m).1 = n'.row ∧ setL n'.row ∧ sOf n'.row = n'.so ∧ (n.po = true → n'.po = true) ∧ (n.qo = true → n'.qo = true) ∧ (n.po = true ∨ n.qo = true) ∧ n'.size ≤ 200 := by
  obtain ⟨hs, t, k, ht, hm1, hk, hkw, hw, hin⟩ := en_at hm
  obtain ⟨n, hn, hf, hz, ho, hst, hso, ht2⟩ := set_tree hs
  have htt : t = n.t := by rw [ht] at ht2; exact Option.some.inj ht2
  subst htt
  obtain ⟨A, B, u, h1, h2, ⟨h3, h3f⟩, h4⟩ := Tm.ctx n 0 k hkw
  rw [Nat.zero_add] at h2
  have hd : l.drop k = u.row ++ B := by rw [hn, h1, ← h2, List.drop_left]
  have htk : l.take k = A := by rw [hn, h1, ← h2, List.take_left]
  have hhd : u.t.hd = l.getD k default := by
    have h3 : l[k]? = some u.t.hd := by
      rw [← List.head?_drop, hd]
      show (u.t.row ++ B).head? = _
      cases u.t <;> rfl
    rw [List.getD_eq_getElem?_getD, h3]; rfl
  have hin' : ((k : Int), m.2) ∈ mvsAt u.t.hd.1 (k : Int) (freeT n.t k) := by
    have e : ((k : Int), m.2) = m := by rw [← hm1]
    rw [hhd, e]
    exact hin
  obtain ⟨x, x1, x2, x3, x4, x5⟩ := made_term (r := B) h3 hin'
  obtain ⟨n', e1, e2, e3, e4⟩ := h4 x
  obtain ⟨p1, p2⟩ := e2 x2 x3
  have hput : putR l m.1 (madeR (l.drop k) m.2) = n'.row := by
    have hsz : sz (l.drop k) = u.size := by
      unfold sz
      rw [hd, show u.row = u.t.row from rfl, P_row (Tm.t_ok u)]; rfl
    have hpos := T.size_pos' u.t
    unfold putR
    rw [if_pos ⟨by omega, by omega, by rw [hm1, Int.toNat_natCast, hsz]; exact hpos⟩, hm1, Int.toNat_natCast, hsz, htk, hd, x1, e1, ← List.drop_drop, hd, ← Tm.len_row u, List.drop_left, List.append_assoc]
  have hf' := e3 hf (x4 (h3f hf))
  have hz' : n'.size ≤ 200 := by omega
  have ho' : n'.po = true ∨ n'.qo = true := ho.imp p1 p2
  have hset := settleR_row hf' hz' ho'
  have hsts := Tm.st_size n'
  have hst' : settleR n'.st.row = n'.st.row := by
    rw [settleR_row (Tm.st_fine hf') (by omega) (ho'.imp Tm.st_po Tm.st_qo), Tm.st_st]
  refine ⟨n, n'.st, hn, hso, ?_, ⟨Tm.row_ne _, hst'⟩, ?_, fun h => Tm.st_po (p1 h), fun h => Tm.st_qo (p2 h), ho, by omega⟩
  · unfold nextL
    rw [if_pos hm, hm1, Int.toNat_natCast, ← hm1, hput, hset]
  · rcases settleR_cases n'.st.row with h | ⟨q, hq, _, _, _, _, hqs⟩
    · rw [h] at hst'; exact absurd hst'.symm (Tm.row_ne _)
    · rw [hqs, Tm.row_inj hq]
theorem on_kind [Dfr] {n n' : Tm} (h1 : n.po = true → n'.po = true) (h2 : n.qo = true → n'.qo = true) (h : n.po = true ∨ n.qo = true) : on n'.so = on n.so := by
  rcases Tm.cls n with ⟨a, _, _, c, d⟩ | ⟨a, _, _, c, d⟩ | ⟨a, _, _, c, d⟩ | ⟨a, _, _, c, d⟩ | ⟨a, _, _, c, d⟩ <;>
    rcases Tm.cls n' with ⟨a', _, _, c', d'⟩ | ⟨a', _, _, c', d'⟩ | ⟨a', _, _, c', d'⟩ | ⟨a', _, _, c', d'⟩ | ⟨a', _, _, c', d'⟩ <;>
    simp_all [on]
theorem law13_StepKinds_l0s [Dfr] [HasOver] [HasWays] [HasPut] (l : List Nd) (b : Bool) (hl : l.length ≤ 400000) : ∀ (r : List Mv) (i : Nat), (enL l).drop i = r → law13_StepKinds_l0 l b (enL l) ((enL l).length : Int) (i : Int) = some (0, b)
  | [], i, h => by
    obtain ⟨h1, h2⟩ := drop_nil h
    rw [law13_StepKinds_l0_eq]
    simp only [h2, cond_false]
  | m :: r, i, h => by
    obtain ⟨h1, h2, h3, h4, h5, h6⟩ := drop_cons h
    have hm : m ∈ enL l := List.mem_of_mem_drop (by rw [h]; exact List.mem_cons_self ..)
    have hL := enL_len l
    obtain ⟨n, n', e1, e2, e3, e4, e5, e6, e7, e8, e9⟩ := next_kind hm
    have hz : (nextL l m).2.2 = 0 := by unfold nextL; rw [if_pos hm]
    have hlen : n'.row.length ≤ 4611686018427387904 := by rw [Tm.len_row]; omega
    have hon := on_kind e6 e7 e8
    rw [law13_StepKinds_l0_eq]
    simp only [h2, h3, h4, cond_true, step_Next_s l m hl, Option.bind_some, hz, bne_self_eq_false, cond_false, e3, settle_Settled_s _ hlen, decide_eq_true (p := n'.row ≠ [] ∧ settleR n'.row = n'.row) e4, Bool.not_true, sort_On_s _ _ hlen, sort_On_s l _ (show l.length ≤ 4611686018427387904 by omega), e2, e5, hon, beq_self_eq_true,
      w_succ (show i < 9223372036854775807 by omega), law13_StepKinds_l0s l b hl r (i + 1) h5]
theorem law13_StepKinds_true [Dfr] [HasOver] [HasWays] [HasPut] (l : List Nd) (hl : wfRow l) : law13_StepKinds l = some true := by
  rw [law13_StepKinds_eq, law13_few_s, Option.bind_some]
  by_cases hf : l.length ≤ 100 ∧ dep l ≤ 24
  · have e := law13_StepKinds_l0s l false (by omega) (enL l) 0 rfl
    rw [Int.natCast_zero] at e
    rw [decide_eq_true hf]
    simp only [Bool.not_true, cond_false, law13_alive_s, Option.bind_some, cond_true, move_Enabled_en l (by omega), e, show Nat.beq 0 0 = true from rfl]
  · rw [decide_eq_false hf]
    simp only [Bool.not_false, cond_true, law13_alive_s, Option.bind_some]
end Go.Proofs.YtjogkjgpbeenfaaDoor.Sv
