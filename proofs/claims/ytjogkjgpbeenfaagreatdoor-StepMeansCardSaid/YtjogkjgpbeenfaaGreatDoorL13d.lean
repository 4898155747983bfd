/- What a move does, by the place where it is done; StepRefuses: what it tells. -/
import Derived.Test.YtjogkjgpbeenfaaGreatDoorR11
import Derived.Test.YtjogkjgpbeenfaaGreatDoorM16
namespace Go.Proofs.YtjogkjgpbeenfaaGreatDoor.Sv
open Go Go.Sv Go.Rd
set_option linter.unusedVariables false
set_option linter.unusedSimpArgs false
theorem ybj [Dfr] (c : Cx) (u : Tm) : ∃ B, (c.fill u).row.drop c.pos = u.row ++ B := by
  obtain ⟨A, B, h1, h2⟩ := Cx.zmn c
  exact ⟨B, by rw [h2, ← h1, List.drop_left]⟩
theorem yre [Dfr] (c : Cx) (u x : Tm) : putR (c.fill u).row (c.pos : Int) x.row = (c.fill x).row := by
  obtain ⟨A, B, h1, h2⟩ := Cx.zmn c
  have hd : (c.fill u).row.drop c.pos = u.row ++ B := by rw [h2, ← h1, List.drop_left]
  have hsz : sz ((c.fill u).row.drop c.pos) = u.size := by
    unfold sz
    rw [hd, show u.row = u.t.row from rfl, qxy (Tm.t_ok u)]; rfl
  have hpos : 0 < u.size := T.qag u.t
  have hlen : (c.fill u).row.length = A.length + (u.size + B.length) := by rw [h2, List.length_append, List.length_append, Tm.zac]
  unfold putR
  rw [if_pos ⟨by omega, by omega, by rw [Int.toNat_natCast, hsz]; exact hpos⟩, Int.toNat_natCast, hsz, ← List.drop_drop, hd, ← Tm.zac u, List.drop_left]
  rw [h2 u, h2 x, ← h1, List.take_left, List.append_assoc]
theorem yne [Dfr] (c : Cx) (u : Tm) : (c.fill u).row.getD c.pos default = u.t.hd := by
  obtain ⟨B, hd⟩ := ybj c u
  have h3 : (c.fill u).row[c.pos]? = some u.t.hd := by
    rw [← List.head?_drop, hd]
    show (u.t.row ++ B).head? = _
    cases u.t <;> rfl
  rw [List.getD_eq_getElem?_getD, h3]; rfl
theorem yzd [Dfr] {n : Tm} {m : Mv} (h : m ∈ enL n.row) : ∃ (c : Cx) (u : Tm), n = c.fill u ∧ u.Wt ∧ m.1 = (c.pos : Int) ∧ m ∈ zoh u.t.hd.1 (c.pos : Int) (qls n.t c.pos) := by
  obtain ⟨hs, t, k, ht, hm1, hk, hkw, hw, hin⟩ := yyh h
  have e : t = n.t := by
    have := zpe (Tm.t_ok n)
    rw [show n.t.row = n.row from rfl, ht] at this
    exact Option.some.inj this
  subst e
  obtain ⟨c, u, h1, h2, h3⟩ := Cx.qkj n 0 k hkw
  rw [Nat.zero_add] at h3
  subst h3
  refine ⟨c, u, h1, h2, hm1, ?_⟩
  have := yne c u
  rw [← h1] at this
  rw [← this]; exact hin
theorem yyi [Dfr] {c : Cx} {u : Tm} (hs : setL (c.fill u).row) (hu : u.Wt) {m : Mv} (h : m ∈ zoh u.t.hd.1 (c.pos : Int) (qls (c.fill u).t c.pos)) : m ∈ enL (c.fill u).row := by
  rw [qku (show tree (c.fill u).row = some (c.fill u).t from zpe (Tm.t_ok _)) hs]
  unfold mvsT
  have hw := Cx.qjq hu c 0
  rw [Nat.zero_add] at hw
  refine List.mem_flatMap.2 ⟨c.pos, hw, ?_⟩
  rw [yne]; exact h
theorem yvs [Dfr] {u : Tm} (hu : u.Wt) {how : Int} {r : List Nd} {k : Int} {f : Bool} (hin : (k, how) ∈ zoh u.t.hd.1 k f) : qet (u.row ++ r) how = (u.mdT how).row ∧ (u.po = true → (u.mdT how).po = true) ∧ (u.qo = true → (u.mdT how).qo = true) ∧ (u.fine → (u.mdT how).fine) ∧ (u.mdT how).size ≤ u.size := by
  have hk : zng (u.row ++ r) = u.t.kids.map T.row := by unfold zng; rw [show u.row = u.t.row from rfl, qxy (Tm.t_ok u)]
  rcases hu with ⟨s, rfl⟩ | ⟨a, b, rfl⟩ | rfl | ⟨a, b, rfl⟩
  · have h1 : how = 1 := by simpa [zoh, Tm.t, T.hd] using hin
    subst h1
    exact ⟨rfl, fun _ => rfl, fun h => by simp [Tm.qo] at h, fun _ => by show ztt 1 = true; decide, Nat.le_refl _⟩
  · have h1 : how = 2 ∨ how = 3 := by simpa [zoh, Tm.t, T.hd] using hin
    rcases h1 with rfl | rfl
    · refine ⟨?_, fun h => ?_, fun h => ?_, fun h => h.1, by show a.size ≤ _; rw [Tm.qcg]; omega⟩
      · unfold qet; rw [if_pos rfl, hk]; rfl
      · simp only [Tm.po, Bool.and_eq_true] at h; exact Tm.zfq h.1
      · simp only [Tm.qo, Bool.and_eq_true] at h; exact Tm.zrt h.1
    · refine ⟨?_, fun h => ?_, fun h => ?_, fun h => h.2, by show b.size ≤ _; rw [Tm.qcg]; omega⟩
      · unfold qet; rw [if_neg (by decide), if_pos rfl, hk]; rfl
      · simp only [Tm.po, Bool.and_eq_true] at h; exact Tm.zfq h.2
      · simp only [Tm.qo, Bool.and_eq_true] at h; exact Tm.zrt h.2
  · have h1 : how = 4 ∨ how = 5 := by
      cases f <;> simp [zoh, Tm.t, T.hd] at hin <;> omega
    rcases h1 with rfl | rfl
    · exact ⟨rfl, fun _ => rfl, fun h => by simp [Tm.qo] at h, fun _ => by show ztt 1 = true; decide, Nat.le_refl _⟩
    · exact ⟨rfl, fun _ => rfl, fun h => by simp [Tm.qo] at h, fun _ => by show ztt 3 = true; decide, Nat.le_refl _⟩
  · have h1 : how = 4 ∨ how = 5 := by
      cases f <;> simp [zoh, Tm.t, T.hd] at hin <;> omega
    rcases h1 with rfl | rfl
    · refine ⟨?_, fun h => by simp [Tm.po] at h, fun h => ?_, fun h => h, Nat.le_refl _⟩
      · unfold qet
        rw [if_neg (by decide), if_neg (by decide), if_neg (by decide), if_pos (show (ix ((Tm.pair a b).row ++ r) 0).1 = 10 from rfl), hk]
        show _ :: (a.t.row ++ (b.t.row ++ [])) = _
        rw [List.append_nil]; rfl
      · show (Tm.going a b).qo = true
        simp only [Tm.qo, Bool.and_eq_true] at h ⊢; exact ⟨Tm.zfq h.1, h.2⟩
    · refine ⟨rfl, fun h => by simp [Tm.po] at h, fun _ => rfl, fun _ => ⟨by show ztt 3 = true; decide, trivial⟩, ?_⟩
      have h1 : 0 < a.size := by rw [← Tm.zac]; exact List.length_pos_iff.2 (Tm.qth a)
      have h2 : (Tm.fin 3 .skip).size = 2 := rfl
      have h3 : (Tm.pair a b).size = a.size + b.size + 1 := rfl
      show (Tm.fin 3 .skip).size ≤ _
      omega
theorem qof [Dfr] {n : Tm} (h : setL n.row) : n.fine ∧ n.size ≤ 200 ∧ (n.po = true ∨ n.qo = true) ∧ n.st = n := by
  obtain ⟨m, hm, hf, hz, ho, hst, _⟩ := qvu h
  have := Tm.qok hm
  subst this
  exact ⟨hf, hz, ho, hst⟩
theorem yml [Dfr] {c : Cx} {u : Tm} {how : Int} (hs : setL (c.fill u).row) (hu : u.Wt) (hin : ((c.pos : Int), how) ∈ zoh u.t.hd.1 (c.pos : Int) (qls (c.fill u).t c.pos)) :
    qiv (c.fill u).row ((c.pos : Int), how) = ((c.fill (u.mdT how)).st.row, u.t.hd.2.1, 0) ∧ (c.fill (u.mdT how)).fine ∧ (c.fill (u.mdT how)).size ≤ (c.fill u).size ∧ (((c.fill u).po = true → (c.fill (u.mdT how)).po = true) ∧ ((c.fill u).qo = true → (c.fill (u.mdT how)).qo = true)) := by
  obtain ⟨hf, hz, ho, hst⟩ := qof hs
  obtain ⟨B, hd⟩ := ybj c u
  obtain ⟨x1, x2, x3, x4, x5⟩ := yvs (r := B) hu hin
  have hk := Cx.zqc x2 x3 c
  have hf2 := (Cx.zew c (x := u.mdT how) hf).1 (x4 (Cx.zew c (x := u) hf).2)
  have hsz := Cx.ynh c (u.mdT how) u
  have hset := zsn hf2 (by omega) (ho.imp hk.1 hk.2)
  refine ⟨?_, hf2, by omega, hk⟩
  unfold qiv
  rw [if_pos (yyi hs hu hin)]
  show (zgi (putR _ (c.pos : Int) (qet ((c.fill u).row.drop (c.pos : Int).toNat) how)), (ix ((c.fill u).row.drop (c.pos : Int).toNat) 0).2.1, (0 : Int)) = _
  rw [Int.toNat_natCast, hd, x1, yre, hset]
  have : ix (u.row ++ B) 0 = u.t.hd := by
    show ix (u.t.row ++ B) 0 = _
    cases u.t <;> rfl
  rw [this]
end Go.Proofs.YtjogkjgpbeenfaaGreatDoor.Sv
