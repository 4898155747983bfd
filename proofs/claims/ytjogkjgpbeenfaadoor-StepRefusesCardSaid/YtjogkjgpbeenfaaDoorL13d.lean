/- What a move does, by the place where it is done; StepRefuses: what it tells. -/
import Derived.Test.YtjogkjgpbeenfaaDoorL13c
import Derived.Test.YtjogkjgpbeenfaaDoorM16
namespace Go.Proofs.YtjogkjgpbeenfaaDoor.Sv
open Go Go.Sv Go.Rd
set_option linter.unusedVariables false
set_option linter.unusedSimpArgs false
theorem drop_fill [Dfr] (c : Cx) (u : Tm) : ∃ B, (c.fill u).row.drop c.pos = u.row ++ B := by
  obtain ⟨A, B, h1, h2⟩ := Cx.fill_row c
  exact ⟨B, by rw [h2, ← h1, List.drop_left]⟩
theorem put_fill [Dfr] (c : Cx) (u x : Tm) : putR (c.fill u).row (c.pos : Int) x.row = (c.fill x).row := by
  obtain ⟨A, B, h1, h2⟩ := Cx.fill_row c
  have hd : (c.fill u).row.drop c.pos = u.row ++ B := by rw [h2, ← h1, List.drop_left]
  have hsz : sz ((c.fill u).row.drop c.pos) = u.size := by
    unfold sz
    rw [hd, show u.row = u.t.row from rfl, P_row (Tm.t_ok u)]; rfl
  have hpos : 0 < u.size := T.size_pos' u.t
  have hlen : (c.fill u).row.length = A.length + (u.size + B.length) := by rw [h2, List.length_append, List.length_append, Tm.len_row]
  unfold putR
  rw [if_pos ⟨by omega, by omega, by rw [Int.toNat_natCast, hsz]; exact hpos⟩, Int.toNat_natCast, hsz, ← List.drop_drop, hd, ← Tm.len_row u, List.drop_left]
  rw [h2 u, h2 x, ← h1, List.take_left, List.append_assoc]
theorem hd_fill [Dfr] (c : Cx) (u : Tm) : (c.fill u).row.getD c.pos default = u.t.hd := by
  obtain ⟨B, hd⟩ := drop_fill c u
  have h3 : (c.fill u).row[c.pos]? = some u.t.hd := by
    rw [← List.head?_drop, hd]
    show (u.t.row ++ B).head? = _
    cases u.t <;> rfl
  rw [List.getD_eq_getElem?_getD, h3]; rfl
theorem pos_fill [Dfr] (c : Cx) (u : Tm) : c.pos < (c.fill u).row.length := by
  rw [Tm.len_row]; exact Cx.pos_lt u c
/-- The moves of a term, by their places. -/
theorem en_cx [Dfr] {n : Tm} {m : Mv} (h : m ∈ enL n.row) : ∃ (c : Cx) (u : Tm), n = c.fill u ∧ u.Wt ∧ m.1 = (c.pos : Int) ∧ m ∈ mvsAt u.t.hd.1 (c.pos : Int) (freeT n.t c.pos) := by
  obtain ⟨hs, t, k, ht, hm1, hk, hkw, hw, hin⟩ := en_at h
  have e : t = n.t := by
    have := tree_row (Tm.t_ok n)
    rw [show n.t.row = n.row from rfl, ht] at this
    exact Option.some.inj this
  subst e
  obtain ⟨c, u, h1, h2, h3⟩ := Cx.of_wts n 0 k hkw
  rw [Nat.zero_add] at h3
  subst h3
  refine ⟨c, u, h1, h2, hm1, ?_⟩
  have := hd_fill c u
  rw [← h1] at this
  rw [← this]; exact hin
theorem cx_en [Dfr] {c : Cx} {u : Tm} (hs : setL (c.fill u).row) (hu : u.Wt) {m : Mv} (h : m ∈ mvsAt u.t.hd.1 (c.pos : Int) (freeT (c.fill u).t c.pos)) : m ∈ enL (c.fill u).row := by
  rw [enL_in (show tree (c.fill u).row = some (c.fill u).t from tree_row (Tm.t_ok _)) hs]
  unfold mvsT
  have hw := Cx.wts_at hu c 0
  rw [Nat.zero_add] at hw
  refine List.mem_flatMap.2 ⟨c.pos, hw, ?_⟩
  rw [hd_fill]; exact h
/-- What stands in a place's stead behind a move. -/
theorem made_md [Dfr] {u : Tm} (hu : u.Wt) {how : Int} {r : List Nd} {k : Int} {f : Bool} (hin : (k, how) ∈ mvsAt u.t.hd.1 k f) : madeR (u.row ++ r) how = (u.mdT how).row ∧ (u.po = true → (u.mdT how).po = true) ∧ (u.qo = true → (u.mdT how).qo = true) ∧ (u.fine → (u.mdT how).fine) ∧ (u.mdT how).size ≤ u.size := by
  have hk : kidsR (u.row ++ r) = u.t.kids.map T.row := by unfold kidsR; rw [show u.row = u.t.row from rfl, P_row (Tm.t_ok u)]
  rcases hu with ⟨s, rfl⟩ | ⟨a, b, rfl⟩ | rfl | ⟨a, b, rfl⟩
  · have h1 : how = 1 := by simpa [mvsAt, Tm.t, T.hd] using hin
    subst h1
    exact ⟨rfl, fun _ => rfl, fun h => by simp [Tm.qo] at h, fun _ => by show signB 1 = true; decide, Nat.le_refl _⟩
  · have h1 : how = 2 ∨ how = 3 := by simpa [mvsAt, Tm.t, T.hd] using hin
    rcases h1 with rfl | rfl
    · refine ⟨?_, fun h => ?_, fun h => ?_, fun h => h.1, by show a.size ≤ _; rw [Tm.size_alt]; omega⟩
      · unfold madeR; rw [if_pos rfl, hk]; rfl
      · simp only [Tm.po, Bool.and_eq_true] at h; exact Tm.po_of_pl h.1
      · simp only [Tm.qo, Bool.and_eq_true] at h; exact Tm.qo_of_pa h.1
    · refine ⟨?_, fun h => ?_, fun h => ?_, fun h => h.2, by show b.size ≤ _; rw [Tm.size_alt]; omega⟩
      · unfold madeR; rw [if_neg (by decide), if_pos rfl, hk]; rfl
      · simp only [Tm.po, Bool.and_eq_true] at h; exact Tm.po_of_pl h.2
      · simp only [Tm.qo, Bool.and_eq_true] at h; exact Tm.qo_of_pa h.2
  · have h1 : how = 4 ∨ how = 5 := by
      cases f <;> simp [mvsAt, Tm.t, T.hd] at hin <;> omega
    rcases h1 with rfl | rfl
    · exact ⟨rfl, fun _ => rfl, fun h => by simp [Tm.qo] at h, fun _ => by show signB 1 = true; decide, Nat.le_refl _⟩
    · exact ⟨rfl, fun _ => rfl, fun h => by simp [Tm.qo] at h, fun _ => by show signB 3 = true; decide, Nat.le_refl _⟩
  · have h1 : how = 4 ∨ how = 5 := by
      cases f <;> simp [mvsAt, Tm.t, T.hd] at hin <;> omega
    rcases h1 with rfl | rfl
    · refine ⟨?_, fun h => by simp [Tm.po] at h, fun h => ?_, fun h => h, Nat.le_refl _⟩
      · unfold madeR
        rw [if_neg (by decide), if_neg (by decide), if_neg (by decide), if_pos (show (ix ((Tm.pair a b).row ++ r) 0).1 = 10 from rfl), hk]
        show _ :: (a.t.row ++ (b.t.row ++ [])) = _
        rw [List.append_nil]; rfl
      · show (Tm.going a b).qo = true
        simp only [Tm.qo, Bool.and_eq_true] at h ⊢; exact ⟨Tm.po_of_pl h.1, h.2⟩
    · refine ⟨rfl, fun h => by simp [Tm.po] at h, fun _ => rfl, fun _ => ⟨by show signB 3 = true; decide, trivial⟩, ?_⟩
      have h1 : 0 < a.size := by rw [← Tm.len_row]; exact List.length_pos_iff.2 (Tm.row_ne a)
      have h2 : (Tm.fin 3 .skip).size = 2 := rfl
      have h3 : (Tm.pair a b).size = a.size + b.size + 1 := rfl
      show (Tm.fin 3 .skip).size ≤ _
      omega
/-- What is known of a settled row that is a term's. -/
theorem set_row [Dfr] {n : Tm} (h : setL n.row) : n.fine ∧ n.size ≤ 200 ∧ (n.po = true ∨ n.qo = true) ∧ n.st = n := by
  obtain ⟨m, hm, hf, hz, ho, hst, _⟩ := set_term h
  have := Tm.row_inj hm
  subst this
  exact ⟨hf, hz, ho, hst⟩
/-- What comes of a move. -/
theorem next_cx [Dfr] {c : Cx} {u : Tm} {how : Int} (hs : setL (c.fill u).row) (hu : u.Wt) (hin : ((c.pos : Int), how) ∈ mvsAt u.t.hd.1 (c.pos : Int) (freeT (c.fill u).t c.pos)) :
    nextL (c.fill u).row ((c.pos : Int), how) = ((c.fill (u.mdT how)).st.row, u.t.hd.2.1, 0) ∧ (c.fill (u.mdT how)).fine ∧ (c.fill (u.mdT how)).size ≤ (c.fill u).size ∧ (((c.fill u).po = true → (c.fill (u.mdT how)).po = true) ∧ ((c.fill u).qo = true → (c.fill (u.mdT how)).qo = true)) := by
  obtain ⟨hf, hz, ho, hst⟩ := set_row hs
  obtain ⟨B, hd⟩ := drop_fill c u
  obtain ⟨x1, x2, x3, x4, x5⟩ := made_md (r := B) hu hin
  have hk := Cx.fill_kind x2 x3 c
  have hf2 := (Cx.fill_fine c (x := u.mdT how) hf).1 (x4 (Cx.fill_fine c (x := u) hf).2)
  have hsz := Cx.fill_size c (u.mdT how) u
  have hset := settleR_row hf2 (by omega) (ho.imp hk.1 hk.2)
  refine ⟨?_, hf2, by omega, hk⟩
  unfold nextL
  rw [if_pos (cx_en hs hu hin)]
  show (settleR (putR _ (c.pos : Int) (madeR ((c.fill u).row.drop (c.pos : Int).toNat) how)), (ix ((c.fill u).row.drop (c.pos : Int).toNat) 0).2.1, (0 : Int)) = _
  rw [Int.toNat_natCast, hd, x1, put_fill, hset]
  have : ix (u.row ++ B) 0 = u.t.hd := by
    show ix (u.t.row ++ B) 0 = _
    cases u.t <;> rfl
  rw [this]
theorem refu_cx [Dfr] {c : Cx} {s : ByteArray} (hs : setL (c.fill (.act s)).row) : refuL (c.fill (.act s)).row ((c.pos : Int), 1) = ((c.fill .throw).st.row, 0) := by
  obtain ⟨hf, hz, ho, hst⟩ := set_row hs
  have hin : ((c.pos : Int), (1 : Int)) ∈ mvsAt (Tm.act s).t.hd.1 (c.pos : Int) (freeT (c.fill (.act s)).t c.pos) := List.mem_singleton.2 rfl
  have hk := Cx.fill_kind (u := .act s) (x := .throw) (fun _ => rfl) (fun h => by simp [Tm.qo] at h) c
  have hf2 := (Cx.fill_fine c (x := .throw) hf).1 trivial
  have hsz := Cx.fill_size c .throw (.act s)
  have hset := settleR_row hf2 (by rw [Tm.size_throw, Tm.size_act] at hsz; omega) (ho.imp hk.1 hk.2)
  unfold refuL
  rw [if_pos ⟨cx_en hs (.inl ⟨s, rfl⟩) hin, rfl⟩]
  show (settleR (putR _ (c.pos : Int) Tm.throw.row), (0 : Int)) = _
  rw [put_fill, hset]
theorem law13_StepRefuses_true [Dfr] [HasOver] [HasWays] [HasPut] (l : List Nd) (m : Mv) (hl : wfRow l) (hmw : (Ty.pair (.int .i64) (.int .i64)).wf m) : law13_StepRefuses l m = some true := by
  rw [law13_StepRefuses_eq, law13_few_s, Option.bind_some]
  by_cases hf : l.length ≤ 100 ∧ dep l ≤ 24
  · rw [decide_eq_true hf]
    simp only [Bool.not_true, cond_false, law13_alive_s, Option.bind_some, cond_true]
    by_cases h1 : m.2 = 1
    · rw [show (m.2 != 1) = false by rw [h1]; rfl, decide_eq_false (show ¬ ((l.length : Int) > 150) by omega)]
      simp only [cond_false, step_Refuse_s l m (by omega), Option.bind_some]
      by_cases hm : m ∈ enL l
      · have hs := (en_at hm).1
        obtain ⟨n, hn, hfi, hz, ho, hst, _⟩ := set_term hs
        subst hn
        obtain ⟨c, u, hc, hu, hm1, hin⟩ := en_cx hm
        subst hc
        have hua : ∃ s, u = .act s := by
          have hme : m = ((c.pos : Int), 1) := by rw [← hm1, ← h1]
          rw [hme] at hin
          rcases hu with ⟨s, rfl⟩ | ⟨a, b, rfl⟩ | rfl | ⟨a, b, rfl⟩
          · exact ⟨s, rfl⟩
          · simp [mvsAt, Tm.t, T.hd] at hin
          · cases hfr : freeT (c.fill Tm.yield).t c.pos <;> rw [hfr] at hin <;> simp [mvsAt, Tm.t, T.hd] at hin
          · cases hfr : freeT (c.fill (Tm.pair a b)).t c.pos <;> rw [hfr] at hin <;> simp [mvsAt, Tm.t, T.hd] at hin
        obtain ⟨s, rfl⟩ := hua
        have hme : m = ((c.pos : Int), 1) := by rw [← hm1, ← h1]
        subst hme
        have hlt := pos_fill c (.act s)
        have hx : ix (c.fill (.act s)).row (c.pos : Int) = (1, s, 0) := by
          rw [ix_nat hlt]
          have := hd_fill c (.act s)
          rw [List.getD_eq_getElem?_getD, List.getElem?_eq_getElem hlt] at this
          exact this
        have hput : ref13_Put (c.fill (.act s)).row (c.pos : Int) [(6, ByteArray.empty, 0), (1, s, 0), (3, ByteArray.empty, 0)] = some (c.fill (.alt (.act s) .throw)).row := by
          rw [ref13_Put_s _ _ _ (by omega) (by simp)]
          congr 1
          exact put_fill c (.act s) (.alt (.act s) .throw)
        have hw : (Tm.alt (.act s) .throw).Wt := .inr (.inl ⟨_, _, rfl⟩)
        have hnm : (Tm.act s).fine := (Cx.fill_fine c (x := .skip) hfi).2
        have hf2 : (c.fill (.alt (.act s) .throw)).fine := (Cx.fill_fine c hfi).1 ⟨hnm, trivial⟩
        have hk := Cx.fill_kind (u := .act s) (x := .alt (.act s) .throw) (fun _ => rfl) (fun h => by simp [Tm.qo] at h) c
        have hsz := Cx.fill_size c (.alt (.act s) .throw) (.act s)
        rw [show (Tm.alt (.act s) .throw).size = 3 from rfl, Tm.size_act] at hsz
        have hz2 : (c.fill (.act s)).size ≤ 100 := by rw [← Tm.len_row]; exact hf.1
        have hs2 : setL (c.fill (.alt (.act s) .throw)).row := term_set hf2 (by omega) (ho.imp hk.1 hk.2) (Cx.fill_set (.inl ⟨s, rfl⟩) hw c hst)
        have n3 := (next_cx (how := 3) hs2 hw (by simp [mvsAt, Tm.t, T.hd])).1
        have n2 := (next_cx (how := 2) hs2 hw (by simp [mvsAt, Tm.t, T.hd])).1
        have l2 : (c.fill (.alt (.act s) .throw)).row.length ≤ 400000 := by rw [Tm.len_row]; omega
        have e3 : (Tm.alt (.act s) .throw).mdT 3 = .throw := rfl
        have e2 : (Tm.alt (.act s) .throw).mdT 2 = .act s := rfl
        have en : (Tm.alt (.act s) .throw).t.hd.2.1 = (⟨#[]⟩ : ByteArray) := rfl
        have hsz3 := Tm.st_size (c.fill .throw)
        have hsz4 := Cx.fill_size c .throw (.act s)
        rw [Tm.size_throw, Tm.size_act] at hsz4
        rw [refu_cx hs]
        simp only [bne_self_eq_false, cond_false, decide_eq_false (show ¬ ((c.pos : Int) < 0) by omega), decide_eq_false (show ¬ ((c.pos : Int) ≥ ((c.fill (.act s)).row.length : Int)) by omega), idxOk_nat hlt, cond_true, hx, hput, Option.bind_some, step_Next_s _ _ l2, n3, n2, e3, e2, en, hst, beq_self_eq_true,
          ref03_Same_s _ _ (show (c.fill .throw).st.row.length ≤ 4611686018427387904 by rw [Tm.len_row]; omega), ref03_Same_s _ _ (show (c.fill (.act s)).row.length ≤ 4611686018427387904 by omega), decide_true]
      · have e : refuL l m = ([], 120) := by unfold refuL; rw [if_neg (fun h => hm h.1)]
        rw [e]; rfl
    · rw [show (m.2 != 1) = true by rw [bne_iff_ne]; exact h1]; rfl
  · rw [decide_eq_false hf]
    simp only [Bool.not_false, cond_true, law13_alive_s, Option.bind_some]
end Go.Proofs.YtjogkjgpbeenfaaDoor.Sv
