/- StepMeans: what it tells. -/
import Derived.Test.YtjogkjgpbeenfaaGreatDoorL13d
import Derived.Test.YtjogkjgpbeenfaaGreatDoorW02b
import Derived.Test.YtjogkjgpbeenfaaGreatDoorL02
import Derived.Test.YtjogkjgpbeenfaaGreatDoorM17
import Derived.Test.YtjogkjgpbeenfaaGreatDoorM12
namespace Go.Proofs.YtjogkjgpbeenfaaGreatDoor.Sv
open Go Go.Sv Go.Rd
set_option linter.unusedVariables false
set_option linter.unusedSimpArgs false
/-! ### which places may give way -/
theorem qui [Dfr] : ∀ m : Tm, m.t.bang = m.bang
  | .act s | .skip | .throw | .yield => rfl
  | .over s => rfl
  | .fin s a => rfl
  | .alt a b | .hand a b | .pair a b => rfl
  | .block a => rfl
  | .seq a b => qui a
  | .going a b => qui a
  | .stack a b => qui a
  | .par a b => by
    show (a.t.bang || b.t.bang) = (a.bang || b.bang)
    rw [qui a, qui b]
theorem ytt [Dfr] {b : Tm} (hf : b.fine) (hz : b.size ≤ 200) (ho : b.po = true ∨ b.qo = true) (hs : b.st = b) : dmL b.row = b.bang := by
  unfold dmL
  rw [@decide_eq_true _ (Classical.propDecidable _) (qfq hf hz ho hs), show tree b.row = some b.t from zpe (Tm.t_ok b)]
  exact qui b
theorem qgw [Dfr] {a b : Bool} : ((a && b) = true) → a = true ∧ b = true := by
  cases a <;> cases b <;> simp
theorem qks [Dfr] (u : Tm) : ∀ (c : Cx) (F : Bool), (c.fill u).fine → (c.fill u).size ≤ 200 → ((c.fill u).po = true ∨ (c.fill u).qo = true) → (c.fill u).st = c.fill u → c.fr F = (if c.bsd.2 = true then c.bsd.1.any dmL else (c.bsd.1.any dmL || F))
  | .hole, F, hf, hz, ho, hs => rfl
  | .seq c b, F, hf, hz, ho, hs => by
    have e : (Tm.seq (c.fill u) b).size = (c.fill u).size + b.size + 1 := rfl
    exact qks u c F hf.1 (by have : (Tm.seq (c.fill u) b).size ≤ 200 := hz; omega) (ho.imp (fun h => (qgw h).1) (fun h => (qgw h).1)) (Tm.qob hs).1
  | .hand c b, F, hf, hz, ho, hs => by
    have e : (Tm.hand (c.fill u) b).size = (c.fill u).size + b.size + 1 := rfl
    exact qks u c F hf.1 (by have : (Tm.hand (c.fill u) b).size ≤ 200 := hz; omega) (ho.elim (fun h => .inl (qgw h).1) (fun h => nomatch h)) (Tm.qjy hs).1
  | .going c b, F, hf, hz, ho, hs => by
    have e : (Tm.going (c.fill u) b).size = (c.fill u).size + b.size + 1 := rfl
    exact qks u c F hf.1 (by have : (Tm.going (c.fill u) b).size ≤ 200 := hz; omega) (ho.elim (fun h => nomatch h) (fun h => .inl (qgw h).1)) (Tm.qgg hs).1
  | .stack c b, F, hf, hz, ho, hs => by
    have e : (Tm.stack (c.fill u) b).size = (c.fill u).size + b.size + 1 := rfl
    exact qks u c F hf.1 (by have : (Tm.stack (c.fill u) b).size ≤ 200 := hz; omega) (ho.elim (fun h => nomatch h) (fun h => .inr (qgw h).1)) (Tm.qgf hs).1
  | .block c, F, hf, hz, ho, hs => by
    have e : (Tm.block (c.fill u)).size = (c.fill u).size + 1 := rfl
    have ih := qks u c false hf (by have : (Tm.block (c.fill u)).size ≤ 200 := hz; omega) (ho.elim (fun h => .inr h) (fun h => nomatch h)) (Tm.qgh hs).1
    show c.fr false = (if true = true then c.bsd.1.any dmL else _)
    rw [ih, if_pos rfl, Bool.or_false, ite_self]
  | .parL c b, F, hf, hz, ho, hs => by
    have e : (Tm.par (c.fill u) b).size = (c.fill u).size + b.size + 1 := rfl
    have hz' : (Tm.par (c.fill u) b).size ≤ 200 := hz
    obtain ⟨h1, h2, _⟩ := Tm.qel hs
    have ho' : ((c.fill u).po = true ∧ b.po = true) ∨ ((c.fill u).qo = true ∧ b.qo = true) := ho.imp qgw qgw
    have ih := qks u c (F || b.bang) hf.1 (by omega) (ho'.imp (·.1) (·.1)) h1
    have hd := ytt hf.2 (by omega) (ho'.imp (·.2) (·.2)) h2
    show c.fr (F || b.bang) = _
    rw [ih]
    by_cases hb : c.bsd.2 = true
    · have e : (Cx.parL c b).bsd = (c.bsd.1, true) := by simp only [Cx.bsd, if_pos hb]
      rw [e, if_pos hb, if_pos rfl]
    · have e : (Cx.parL c b).bsd = (c.bsd.1 ++ [b.row], false) := by simp only [Cx.bsd, if_neg hb]
      rw [e, if_neg hb, if_neg (by simp), List.any_append, ← hd]
      simp only [List.any_cons, List.any_nil, Bool.or_false]
      cases c.bsd.1.any dmL <;> cases F <;> cases dmL b.row <;> rfl
  | .parR a c, F, hf, hz, ho, hs => by
    have e : (Tm.par a (c.fill u)).size = a.size + (c.fill u).size + 1 := rfl
    have hz' : (Tm.par a (c.fill u)).size ≤ 200 := hz
    obtain ⟨h1, h2, _⟩ := Tm.qel hs
    have ho' : (a.po = true ∧ (c.fill u).po = true) ∨ (a.qo = true ∧ (c.fill u).qo = true) := ho.imp qgw qgw
    have ih := qks u c (F || a.bang) hf.2 (by omega) (ho'.imp (·.2) (·.2)) h2
    have hd := ytt hf.1 (by omega) (ho'.imp (·.1) (·.1)) h1
    show c.fr (F || a.bang) = _
    rw [ih]
    by_cases hb : c.bsd.2 = true
    · have e : (Cx.parR a c).bsd = (c.bsd.1, true) := by simp only [Cx.bsd, if_pos hb]
      rw [e, if_pos hb, if_pos rfl]
    · have e : (Cx.parR a c).bsd = (c.bsd.1 ++ [a.row], false) := by simp only [Cx.bsd, if_neg hb]
      rw [e, if_neg hb, if_neg (by simp), List.any_append, ← hd]
      simp only [List.any_cons, List.any_nil, Bool.or_false]
      cases c.bsd.1.any dmL <;> cases F <;> cases dmL a.row <;> rfl
theorem yeb [Dfr] {c : Cx} {u : Tm} (hs : setL (c.fill u).row) : qls (c.fill u).t c.pos = c.fr true := by
  obtain ⟨hf, hz, ho, hst⟩ := qof hs
  have := Cx.zus u c 0
  rw [Nat.zero_add] at this
  rw [qks u c true hf hz ho hst]
  unfold qls
  rw [this]
  cases c.bsd.2 <;> simp
/-! ### moves -/
theorem ycg [Dfr] {u : Tm} (hu : u.Wt) {how k : Int} {f : Bool} : (k, how) ∈ zoh u.t.hd.1 k f ↔ u.wayT how f := by
  rcases hu with ⟨s, rfl⟩ | ⟨a, b, rfl⟩ | rfl | ⟨a, b, rfl⟩
  · simp [zoh, Tm.t, T.hd, Tm.wayT]
  · simp [zoh, Tm.t, T.hd, Tm.wayT]
  · cases f <;> simp [zoh, Tm.t, T.hd, Tm.wayT]
  · cases f <;> simp [zoh, Tm.t, T.hd, Tm.wayT]
theorem ymm [Dfr] {u : Tm} (hu : u.Wt) (hf : u.fine) : (if u.t.hd.2.1 = (⟨#[]⟩ : ByteArray) then [] else [u.t.hd.2.1]) = u.nmL := by
  rcases hu with ⟨s, rfl⟩ | ⟨a, b, rfl⟩ | rfl | ⟨a, b, rfl⟩
  · have h : ydk s = true := hf
    show (if s = _ then [] else [s]) = [s]
    rw [if_neg]
    rintro rfl
    revert h; decide
  · exact if_pos rfl
  · exact if_pos rfl
  · exact if_pos rfl
/-! ### what comes of what is small is small -/
def w1 (n : Nd) : Nat := if n.1 = 1 then 1 else 0
theorem yro [Dfr] : Tm.Light w1 := ⟨rfl, fun _ => rfl, fun _ => rfl, rfl, rfl⟩
theorem yvq [Dfr] (m : Tm) : m.nm.length = m.wt w1 := by
  rw [Tm.zoj]
  show _ = (m.row.map w1).sum
  generalize m.row = l
  induction l with
  | nil => rfl
  | cons n l ih =>
    rw [List.map_cons, List.sum_cons, ← ih]
    by_cases h : n.1 = 1
    · rw [List.countP_cons_of_pos (by simp [h])]
      unfold w1; rw [if_pos h]; omega
    · rw [List.countP_cons_of_neg (by simp [h])]
      unfold w1; rw [if_neg h]; omega
theorem yyv [Dfr] {u : Tm} (hu : u.Wt) (how : Int) : (u.mdT how).nm.length ≤ u.nm.length := by
  rcases hu with ⟨s, rfl⟩ | ⟨a, b, rfl⟩ | rfl | ⟨a, b, rfl⟩
  · exact Nat.zero_le _
  · show (if how = 2 then a else b).nm.length ≤ (a.nm ++ b.nm).length
    rw [List.length_append]
    split <;> omega
  · show (if how = 5 then Tm.over 3 else Tm.over 1).nm.length ≤ 0
    split <;> exact Nat.le_refl _
  · show (if how = 5 then Tm.fin 3 .skip else Tm.going a b).nm.length ≤ (a.nm ++ b.nm).length
    split
    · exact Nat.zero_le _
    · exact Nat.le_refl _
theorem yvv [Dfr] (c : Cx) (x y : Tm) : (c.fill x).nm.length + y.nm.length = (c.fill y).nm.length + x.nm.length := by
  obtain ⟨A, B, h1, h2⟩ := Cx.zmn c
  simp only [yvq, Tm.wt, h2, List.map_append, List.sum_append]
  omega
theorem qtn [Dfr] {c : Cx} {u : Tm} {how : Int} (hu : u.Wt) (h : (c.fill u).small) (hz : (c.fill (u.mdT how)).size ≤ (c.fill u).size) : (c.fill (u.mdT how)).st.small := by
  obtain ⟨h1, h2⟩ := h
  have e1 := Tm.zhi (c.fill (u.mdT how))
  have e2 := Tm.yyp w1 yro (c.fill (u.mdT how))
  have e3 := yvv c (u.mdT how) u
  have e4 := yyv hu how
  rw [← yvq, ← yvq] at e2
  exact ⟨by omega, by omega⟩
/-! ### the law -/
def zut (s : ByteArray) (L : List Tc) : List Tc := L.map fun x => ((if s = (⟨#[]⟩ : ByteArray) then [] else [s]) ++ x.1, x.2)
theorem zsz [Dfr] (s : ByteArray) (L : List Tc) (hL : L.length ≤ 1000000000) (hs : ∀ x ∈ L, x.1.length ≤ 1000) : ∀ (r : List Tc) (i : Nat) (acc : List Tc), L.drop i = r → acc.length ≤ i → zjm s acc L (L.length : Int) (i : Int) = some (0, acc ++ zut s r)
  | [], i, acc, h, ha => by
    obtain ⟨h1, h2⟩ := drop_nil h
    rw [zxd]
    simp only [h2, cond_false]
    simp [zut]
  | x :: r, i, acc, h, ha => by
    obtain ⟨h1, h2, h3, h4, h5, h6⟩ := zad h
    have hx := hs x (List.mem_of_mem_drop (by rw [h]; exact List.mem_cons_self ..))
    rw [zxd]
    simp only [h2, h3, h4, cond_true, str_eq, room (show (1 + x.1.length) * 16 ≤ 140737488355328 by omega), room (show (0 + x.1.length) * 16 ≤ 140737488355328 by omega), room (show (acc.length + 1) * 32 ≤ 140737488355328 by omega), zcf (show i < 9223372036854775807 by omega)]
    by_cases e : s = (⟨#[]⟩ : ByteArray)
    · rw [decide_eq_true e, Bool.not_true, cond_false, zsz s L hL hs r (i + 1) _ h5 (by simp; omega)]
      simp [zut, if_pos e]
    · rw [decide_eq_false e, Bool.not_false, cond_true, zsz s L hL hs r (i + 1) _ h5 (by simp; omega)]
      simp [zut, if_neg e]
theorem qxc [Dfr] (s : ByteArray) (L : List Tc) (hL : L.length ≤ 1000000000) (hs : ∀ x ∈ L, x.1.length ≤ 1000) : zyn s L = some (zut s L) := by
  have e := zsz s L hL hs L 0 [] rfl (by simp)
  rw [Int.natCast_zero] at e
  rw [qso, e]; rfl
theorem qiu [Dfr] [qcc] {m : Tm} (hs : setL m.row) (hp : m.po = true) (hsm : m.small) {mv : Mv} (h : mv ∈ enL m.row) : ∃ (c : Cx) (u : Tm), m = c.fill u ∧ u.Wt ∧ u.fine ∧ mv.1 = (c.pos : Int) ∧ u.wayT mv.2 (c.fr true) ∧
    qiv m.row mv = ((c.fill (u.mdT mv.2)).st.row, u.t.hd.2.1, 0) ∧ qdp (c.fill (u.mdT mv.2)).st.row = ((c.fill (u.mdT mv.2)).tr, 0) ∧ (c.fill (u.mdT mv.2)).tr.length ≤ 400000000 ∧ (∀ x ∈ (c.fill (u.mdT mv.2)).tr, x.1.length ≤ 6) ∧ (c.fill (u.mdT mv.2)).st.size ≤ 200 := by
  obtain ⟨c, u, rfl, hu, h1, h2⟩ := yzd h
  have hm : mv = ((c.pos : Int), mv.2) := by rw [← h1]
  rw [hm] at h2
  obtain ⟨n1, n2, n3, n4, _⟩ := yml hs hu h2
  obtain ⟨hf, hz, ho, hst⟩ := qof hs
  have hpo := n4 hp
  have hst2 := Tm.ykg hpo
  have hsm2 := qtn (how := mv.2) hu hsm n3
  have e1 := Tm.zhi (c.fill (u.mdT mv.2))
  have htr := (Tm.yfs (c.fill (u.mdT mv.2))).1 hpo
  refine ⟨c, u, rfl, hu, (Cx.zew c (x := u) hf).2, h1, ?_, ?_, ?_, ?_, ?_, by omega⟩
  · rw [← yeb hs]; exact (ycg hu).1 h2
  · rw [hm]; exact n1
  · rw [qit (Tm.yki n2) (by omega) hst2 hsm2, htr]
  · rw [← htr]; exact (zlq hsm2).1
  · rw [← htr]; exact zdu hsm2
noncomputable def qil (l : List Nd) (mv : Mv) : List Tc := zut (qiv l mv).2.1 (qdp (qiv l mv).1).1
theorem zta [Dfr] [qcc] [zjt] [zqx] [qkz] {m : Tm} (hs : setL m.row) (hp : m.po = true) (hsm : m.small) (b : Bool) : ∀ (r : List Mv) (i : Nat) (acc : List Tc), (enL m.row).drop i = r → acc.length ≤ i * 400000000 →
    zhe m.row b acc (enL m.row) ((enL m.row).length : Int) (i : Int) = some (0, (m.row, b, acc ++ r.flatMap (qil m.row)))
  | [], i, acc, h, ha => by
    obtain ⟨h1, h2⟩ := drop_nil h
    rw [zpx]
    simp only [h2, cond_false]
    simp
  | mv :: r, i, acc, h, ha => by
    obtain ⟨h1, h2, h3, h4, h5, h6⟩ := zad h
    have hm : mv ∈ enL m.row := List.mem_of_mem_drop (by rw [h]; exact List.mem_cons_self ..)
    have hL := yeg m.row
    have hml : m.row.length ≤ 200 := by rw [Tm.zac]; exact (qof hs).2.1
    obtain ⟨c, u, e1, hu, hf, e2, e3, e4, e5, e6, e7, e8⟩ := qiu hs hp hsm hm
    have hlen : (c.fill (u.mdT mv.2)).st.row.length ≤ 4611686018427387904 := by rw [Tm.zac]; omega
    have hst : qil m.row mv = zut u.t.hd.2.1 (c.fill (u.mdT mv.2)).tr := by unfold qil; rw [e4]; show zut _ (qdp (c.fill (u.mdT mv.2)).st.row).1 = _; rw [e5]
    have hal : (zut u.t.hd.2.1 (c.fill (u.mdT mv.2)).tr).length = (c.fill (u.mdT mv.2)).tr.length := by unfold zut; rw [List.length_map]
    rw [zpx]
    simp only [h2, h3, h4, cond_true, zxp m.row mv (by omega), Option.bind_some, e4, qkp _ hlen, e5, bne_self_eq_false, cond_false, qxc _ _ (show (c.fill (u.mdT mv.2)).tr.length ≤ 1000000000 by omega) (fun x hx => Nat.le_trans (e7 x hx) (by decide)),
      room (show (acc.length + (zut u.t.hd.2.1 (c.fill (u.mdT mv.2)).tr).length) * 32 ≤ 140737488355328 by omega), zcf (show i < 9223372036854775807 by omega)]
    rw [zta hs hp hsm b r (i + 1) _ h5 (by rw [List.length_append]; omega), List.flatMap_cons, hst, List.append_assoc]
theorem yfr [Dfr] [qcc] {m : Tm} (hs : setL m.row) (hp : m.po = true) (hsm : m.small) (hov : m.zul = false) (x : Tc) : x ∈ (enL m.row).flatMap (qil m.row) ↔ x ∈ m.tr := by
  obtain ⟨hfi, hz, ho, hst⟩ := qof hs
  rw [List.mem_flatMap]
  constructor
  · rintro ⟨mv, hmv, hx⟩
    obtain ⟨c, u, rfl, hu, hf, e2, e3, e4, e5, e6, e7, e8⟩ := qiu hs hp hsm hmv
    unfold qil at hx
    rw [e4] at hx
    have hx : x ∈ zut u.t.hd.2.1 (qdp (c.fill (u.mdT mv.2)).st.row).1 := hx
    rw [e5] at hx
    obtain ⟨y, hy, rfl⟩ := List.mem_map.1 hx
    rw [ymm hu hf]
    exact (Tm.sound e3 c).1 y hy
  · intro hx
    obtain ⟨c, u, how, y, rfl, hu, hw, hy, rfl⟩ := (Tm.zun m hst hfi).1 hp hov true x hx (.inl rfl)
    have hmv : ((c.pos : Int), how) ∈ enL (c.fill u).row := yyi hs hu (by rw [yeb hs]; exact (ycg hu).2 hw)
    refine ⟨_, hmv, ?_⟩
    have hin : ((c.pos : Int), how) ∈ zoh u.t.hd.1 (c.pos : Int) (qls (c.fill u).t c.pos) := by rw [yeb hs]; exact (ycg hu).2 hw
    obtain ⟨n1, n2, n3, n4, _⟩ := yml hs hu hin
    have hpo := n4 hp
    have hsm2 := qtn (how := how) hu hsm n3
    have e1 := Tm.zhi (c.fill (u.mdT how))
    unfold qil
    rw [n1]
    show _ ∈ zut u.t.hd.2.1 (qdp (c.fill (u.mdT how)).st.row).1
    rw [qit (Tm.yki n2) (by omega) (Tm.ykg hpo) hsm2, (Tm.yfs _).1 hpo]
    refine List.mem_map.2 ⟨y, hy, ?_⟩
    rw [ymm hu (Cx.zew c (x := u) hfi).2]
    rfl
theorem zrc [Dfr] [qcc] [zjt] [zqx] [qkz] (l : List Nd) (hl : yua l) : qbh l = some true := by
  rw [qhh, ydw, Option.bind_some]
  by_cases hf : l.length ≤ 100 ∧ dep l ≤ 24
  · rw [decide_eq_true hf]
    simp only [Bool.not_true, cond_false, qhg, Option.bind_some, cond_true, qnk l _ (show l.length ≤ 4611686018427387904 by omega), zmm l (show l.length ≤ 4611686018427387904 by omega), qko, Bool.false_eq_true, if_false]
    by_cases k1 : on (sOf l) = 3
    · rw [decide_eq_true k1]
      by_cases s1 : l ≠ [] ∧ zgi l = l
      · rw [decide_eq_true s1]
        by_cases hsm : zzb l
        · rw [decide_eq_true hsm, zbp (List.length_pos_iff.2 s1.1)]
          simp only [Bool.not_true, cond_false, cond_true]
          by_cases h11 : (ix l 0).1 = 11
          · rw [h11]; rfl
          · rw [show ((ix l 0).1 == 11) = false by rw [beq_eq_false_iff_ne]; exact h11]
            obtain ⟨m, hm, hfi, hz, ho, hst, _⟩ := qvu s1
            subst hm
            have hsmall := qiq.1 hsm
            have hp : m.po = true := by
              rw [ylc hfi hz] at k1
              exact (yxn m).1 k1
            have hov : m.zul = false := by
              cases m <;> first | rfl | skip
              exact absurd rfl h11
            have e := zta s1 hp hsmall false (enL m.row) 0 [] rfl (by simp)
            rw [Int.natCast_zero, List.nil_append] at e
            have hall : ∀ x ∈ (enL m.row).flatMap (qil m.row), x ∈ m.tr := fun x hx => (yfr s1 hp hsmall hov x).1 hx
            have hsh : zpq ((enL m.row).flatMap (qil m.row)) := fewT.short fun x hx => by have := zdu hsmall x (hall x hx); omega
            have hEL := yeg m.row
            have hlen : ((enL m.row).flatMap (qil m.row)).length ≤ (enL m.row).length * 400000000 := zoz fun mv hmv => by
              obtain ⟨c, u, e1, hu, hf, e2, e3, e4, e5, e6, e7, e8⟩ := qiu s1 hp hsmall hmv
              unfold qil zut
              rw [e4, List.length_map]
              show (qdp (c.fill (u.mdT mv.2)).st.row).1.length ≤ _
              rw [e5]; exact e6
            have hlen2 : ((enL m.row).flatMap (qil m.row)).length ≤ 400 * 400000000 := Nat.le_trans hlen (Nat.mul_le_mul_right _ hEL)
            have hset : canon cmpT ((enL m.row).flatMap (qil m.row)) = m.tr := qip ordT (zmb ordT _) (Tm.ykj m) fun x => (zbv ordT).trans (yfr s1 hp hsmall hov x)
            have hpl : qdp m.row = (m.tr, 0) := qit hfi hz hp hsmall
            have hml := (zlq hsmall).1
            simp only [cond_false, qay m.row (by omega), Option.bind_some, e, show Nat.beq 0 0 = true from rfl, cond_true, qkp m.row (show m.row.length ≤ 4611686018427387904 by omega), hpl, beq_self_eq_true,
              qep _ _ (Nat.le_refl _) (show ((enL m.row).flatMap (qil m.row)).length ≤ 200000000000 by omega) hsh, hset, yav m.tr (by omega),
              qzr m.tr m.tr (by omega) (fewT.short fun x hx => by have := zdu hsmall x hx; omega) (fewT.short fun x hx => by have := zdu hsmall x hx; omega), decide_true]
        · rw [decide_eq_false hsm]; rfl
      · rw [decide_eq_false s1]; rfl
    · rw [decide_eq_false k1]; rfl
  · rw [decide_eq_false hf]
    simp only [Bool.not_false, cond_true, qhg, Option.bind_some]
end Go.Proofs.YtjogkjgpbeenfaaGreatDoor.Sv
