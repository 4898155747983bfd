/- What follows of meanings. Plain Lean, no program in sight. -/
import Derived.Test.YtjogkjgpbeenfaaGreatDoorM9
import Derived.Test.YtjogkjgpbeenfaaGreatDoorM5
import Derived.Test.YtjogkjgpbeenfaaGreatDoorM3
namespace Go.Rd
open Go Go.Sv
set_option linter.unusedVariables false
set_option linter.unusedSimpArgs false
theorem qfp (q : Tc) : zir ([], 1) q = q := by simp [zir]
namespace Tm
end Tm
end Go.Rd

/- What is settled means what it meant; what may be refused; what will end by a throw. Plain Lean, no program in sight. -/
namespace Go.Rd
open Go Go.Sv
set_option linter.unusedVariables false
set_option linter.unusedSimpArgs false
namespace Tm
/-! ### of what is made of parts that mean the same -/
theorem qyh {a a' b b' : Tm} (h : a.tr = a'.tr) (k : b.tr = b'.tr) : (seq a b).tr = (seq a' b').tr := zzt fun x => by rw [zgt, zgt, h, k]
theorem qvc {a a' b b' : Tm} (h : a.tr = a'.tr) (k : b.tr = b'.tr) : (hand a b).tr = (hand a' b').tr := zzt fun x => by rw [zhj, zhj, h, k]
theorem qyi {a a' b b' : Tm} (h : a.tr = a'.tr) (k : b.tr = b'.tr) : (par a b).tr = (par a' b').tr := zzt fun x => by rw [zfr, zfr, h, k]
theorem qrh {a a' : Tm} (h : a.pq = a'.pq) : (block a).tr = (block a').tr := zzt fun x => by rw [zep, zep, h]
theorem qzy {a a' b b' : Tm} (h : a.pq = a'.pq) (k : b.pq = b'.pq) : (seq a b).pq = (seq a' b').pq := qdo fun x => by rw [zjk, zjk, h, k]
theorem qzz {a a' b b' : Tm} (h : a.pq = a'.pq) (k : b.pq = b'.pq) : (par a b).pq = (par a' b').pq := qdo fun x => by rw [zgu, zgu, h, k]
theorem qdn {a a' c c' : Tm} (h : a.pq = a'.pq) (k : c.tr = c'.tr) : (stack a c).pq = (stack a' c').pq := qdo fun x => by rw [zhc, zhc, h, k]
theorem qry {a a' b b' : Tm} (h : a.tr = a'.tr) (k : b.tr = b'.tr) : (going a b).pq = (going a' b').pq := qdo fun x => by rw [zfi, zfi, h, k]
/-! ### what is settled -/
theorem qzx (x c : Tm) : (zrb x c).pq = (stack x c).pq := by
  cases x with
  | fin s d =>
    refine qdo fun z => ?_
    show z ∈ (fin s (seq d c)).pq ↔ _
    rw [zbh, zhc]
    constructor
    · rintro ⟨q, hq, rfl⟩
      obtain ⟨u, hu, v, hv, rfl⟩ := zgt.1 hq
      exact ⟨_, zbh.2 ⟨u, hu, rfl⟩, v, hv, rfl⟩
    · rintro ⟨p, hp, q, hq, rfl⟩
      obtain ⟨u, hu, rfl⟩ := zbh.1 hp
      exact ⟨_, zgt.2 ⟨u, hu, q, hq, rfl⟩, rfl⟩
  | _ => rfl
theorem yuc (x y : Tm) (hx : x.po = true) (hy : y.po = true) : (par' x y).tr = (par x y).tr := by
  rcases qco x y with ⟨s, z, rfl, rfl, e⟩ | ⟨s, c, z, d, rfl, rfl, e⟩ | e
  · rw [e]
    refine zzt fun w => ?_
    rw [zau, zfr]
    constructor
    · rintro rfl
      exact ⟨_, zau.2 rfl, _, zau.2 rfl, .nil, rfl⟩
    · rintro ⟨p, hp, q, hq, h1, h2⟩
      rw [zau.1 hp, zau.1 hq] at h1 h2
      exact Prod.ext h1.qrz h2
  · simp [po] at hx
  · rw [e]
theorem yvj (x y : Tm) (hx : x.qo = true) (hy : y.qo = true) : (par' x y).pq = (par x y).pq := by
  rcases qco x y with ⟨s, z, rfl, rfl, e⟩ | ⟨s, c, z, d, rfl, rfl, e⟩ | e
  · simp [qo] at hx
  · rw [e]
    refine qdo fun w => ?_
    rw [zbh, zgu]
    constructor
    · rintro ⟨q, hq, rfl⟩
      obtain ⟨u, hu, v, hv, h1, h2⟩ := zfr.1 hq
      exact ⟨_, zbh.2 ⟨u, hu, rfl⟩, _, zbh.2 ⟨v, hv, rfl⟩, ⟨.nil, rfl⟩, h1, h2⟩
    · rintro ⟨p, hp, q, hq, ⟨h1, h2⟩, h3, h4⟩
      obtain ⟨u, hu, rfl⟩ := zbh.1 hp
      obtain ⟨v, hv, rfl⟩ := zbh.1 hq
      exact ⟨w.2, zfr.2 ⟨u, hu, v, hv, h3, h4⟩, Prod.ext (Prod.ext h1.qrz h2) rfl⟩
  · rw [e]
theorem yci {s : Int} {b : Tm} (hs : s ≠ 1) (hb : ∃ x, x ∈ b.tr) : (seq (over s) b).tr = (over s).tr := zzt fun x => by
  rw [zgt, zau]
  constructor
  · rintro ⟨p, hp, q, hq, rfl⟩
    rw [zau.1 hp]
    unfold zir
    rw [if_neg hs]
  · rintro rfl
    obtain ⟨q, hq⟩ := hb
    exact ⟨_, zau.2 rfl, q, hq, by unfold zir; rw [if_neg hs]⟩
theorem qyj {s : Int} {b : Tm} (hs : s ≠ 2) (hb : ∃ x, x ∈ b.tr) : (hand (over s) b).tr = (over s).tr := zzt fun x => by
  rw [zhj, zau]
  constructor
  · rintro ⟨p, hp, q, hq, rfl⟩
    rw [zau.1 hp]
    unfold qbl
    rw [if_neg hs]
  · rintro rfl
    obtain ⟨q, hq⟩ := hb
    exact ⟨_, zau.2 rfl, q, hq, by unfold qbl; rw [if_neg hs]⟩
theorem yhy {s : Int} {c b : Tm} (hs : s ≠ 1) (hb : ∃ x, x ∈ b.pq) : (seq (fin s c) b).pq = (fin s c).pq := qdo fun x => by
  rw [zjk]
  constructor
  · rintro ⟨p, hp, q, hq, rfl⟩
    have hp' := hp
    obtain ⟨u, hu, rfl⟩ := zbh.1 hp'
    unfold seqF
    rw [if_neg hs]
    exact hp
  · intro hx
    obtain ⟨q, hq⟩ := hb
    refine ⟨x, hx, q, hq, ?_⟩
    obtain ⟨u, hu, rfl⟩ := zbh.1 hx
    unfold seqF
    rw [if_neg hs]
theorem ydg {c b : Tm} : (seq (fin 1 c) b).pq = (stack b c).pq := qdo fun x => by
  rw [zjk, zhc]
  constructor
  · rintro ⟨p, hp, q, hq, rfl⟩
    obtain ⟨u, hu, rfl⟩ := zbh.1 hp
    refine ⟨q, hq, u, hu, ?_⟩
    unfold seqF
    rw [if_pos rfl, qfp]
  · rintro ⟨p, hp, q, hq, rfl⟩
    refine ⟨_, zbh.2 ⟨q, hq, rfl⟩, p, hp, ?_⟩
    unfold seqF
    rw [if_pos rfl, qfp]
theorem qvb (b : Tm) : (hand (over 2) b).tr = b.tr := zzt fun x => by
  rw [zhj]
  constructor
  · rintro ⟨p, hp, q, hq, rfl⟩
    rw [zau.1 hp]; exact hq
  · exact fun h => ⟨_, zau.2 rfl, x, h, rfl⟩
theorem qyk (b : Tm) : (seq (over 1) b).tr = b.tr := zzt fun x => by
  rw [zgt]
  constructor
  · rintro ⟨p, hp, q, hq, rfl⟩
    rw [zau.1 hp, qfp]; exact hq
  · exact fun h => ⟨_, zau.2 rfl, x, h, (qfp x).symm⟩
theorem yfs : ∀ m : Tm, (m.po = true → m.st.tr = m.tr) ∧ (m.qo = true → m.st.pq = m.pq) := by
  intro m
  induction m using qmd with
  | h m ih =>
    cases m with
    | act s => rw [qdh]; exact ⟨fun _ => rfl, fun _ => rfl⟩
    | yield => rw [qfs]; exact ⟨fun _ => rfl, fun _ => rfl⟩
    | skip => rw [qim]; exact ⟨fun _ => rfl, fun h => by simp [qo] at h⟩
    | throw => rw [zty]; exact ⟨fun _ => rfl, fun h => by simp [qo] at h⟩
    | over s => rw [qio]; exact ⟨fun _ => rfl, fun _ => rfl⟩
    | alt a b => rw [qyt]; exact ⟨fun _ => rfl, fun _ => rfl⟩
    | pair a b => rw [qin]; exact ⟨fun _ => rfl, fun _ => rfl⟩
    | fin s a => rw [qys]; exact ⟨fun _ => rfl, fun _ => rfl⟩
    | hand a b =>
      refine ⟨fun h => ?_, fun h => by simp [qo] at h⟩
      simp only [po, Bool.and_eq_true] at h
      have ha := (ih a (by rw [zdn]; omega)).1 h.1
      have hb := (ih b (by rw [zdn]; omega)).1 (zfq h.2)
      have hne := ypr h.2
      rw [zzy, qvc (b := b) ha.symm rfl]
      cases hx : a.st with
      | over s =>
        simp only [hand']
        split
        · rename_i h2
          rw [hb, h2, qvb]
        · rename_i h2
          rw [qyj h2 hne]
      | _ => rfl
    | seq a b =>
      refine ⟨fun h => ?_, fun h => ?_⟩
      · simp only [po, Bool.and_eq_true] at h
        have ha := (ih a (by rw [zcs]; omega)).1 h.1
        have hb := (ih b (by rw [zcs]; omega)).1 (zfq h.2)
        have hne := ypr h.2
        have hpo := ykg h.1
        rw [qft, qyh (b := b) ha.symm rfl]
        cases hx : a.st with
        | over s =>
          simp only [seq']
          split
          · rename_i h2
            rw [hb, h2, qyk]
          · rename_i h2
            rw [yci h2 hne]
        | fin s c => rw [hx] at hpo; simp [po] at hpo
        | _ => rfl
      · simp only [qo, Bool.and_eq_true] at h
        have ha := (ih a (by rw [zcs]; omega)).2 h.1
        have hb := (ih b (by rw [zcs]; omega)).2 (zrt h.2)
        have hne := yys h.2
        have hqo := ypw h.1
        rw [qft, qzy (b := b) ha.symm rfl]
        cases hx : a.st with
        | over s => rw [hx] at hqo; simp [qo] at hqo
        | fin s c =>
          simp only [seq']
          split
          · rename_i h2
            rw [qzx, h2, ydg]
            exact qdn hb rfl
          · rename_i h2
            rw [yhy h2 hne]
        | _ => rfl
    | stack a c =>
      refine ⟨fun h => by simp [po] at h, fun h => ?_⟩
      simp only [qo, Bool.and_eq_true] at h
      have ha := (ih a (by rw [zgf]; omega)).2 h.1
      rw [qce, qzx]
      exact qdn ha rfl
    | going a b =>
      refine ⟨fun h => by simp [po] at h, fun h => ?_⟩
      simp only [qo, Bool.and_eq_true] at h
      have ha := (ih a (by rw [zez]; omega)).1 h.1
      have hne := ypr h.2
      rw [zxq, qry (b := b) ha.symm rfl]
      cases hx : a.st with
      | over s =>
        simp only [qqa]
        split
        · rename_i h2
          subst h2
          refine qdo fun x => ?_
          rw [zbh, zfi]
          constructor
          · rintro ⟨q, hq, rfl⟩
            exact ⟨_, zau.2 rfl, q, hq, rfl⟩
          · rintro ⟨p, hp, q, hq, rfl⟩
            rw [zau.1 hp]
            exact ⟨q, hq, rfl⟩
        · rename_i h2
          refine qdo fun x => ?_
          rw [zbh, zfi]
          constructor
          · rintro ⟨q, hq, rfl⟩
            obtain ⟨y, hy⟩ := hne
            refine ⟨_, zau.2 rfl, y, hy, ?_⟩
            rw [zow.1 hq]
            unfold goF
            rw [if_neg h2]
          · rintro ⟨p, hp, q, hq, rfl⟩
            rw [zau.1 hp]
            refine ⟨_, zow.2 rfl, ?_⟩
            unfold goF
            rw [if_neg h2]
      | _ => rfl
    | par a b =>
      refine ⟨fun h => ?_, fun h => ?_⟩
      · simp only [po, Bool.and_eq_true] at h
        have ha := (ih a (by rw [zet]; omega)).1 h.1
        have hb := (ih b (by rw [zet]; omega)).1 h.2
        rw [qnf, yuc _ _ (ykg h.1) (ykg h.2)]
        exact qyi ha hb
      · simp only [qo, Bool.and_eq_true] at h
        have ha := (ih a (by rw [zet]; omega)).2 h.1
        have hb := (ih b (by rw [zet]; omega)).2 h.2
        rw [qnf, yvj _ _ (ypw h.1) (ypw h.2)]
        exact qzz ha hb
    | block a =>
      refine ⟨fun h => ?_, fun h => by simp [qo] at h⟩
      simp only [po] at h
      have ha := (ih a (by rw [zbo]; omega)).2 h
      have hqo := ypw h
      have hsz := zhi a
      rw [ztz, qrh ha.symm]
      cases hx : a.st with
      | fin s c =>
        rw [hx] at hqo hsz
        simp only [qo] at hqo
        rw [zfd] at hsz
        simp only [block']
        split
        · rename_i h1
          subst h1
          refine zzt fun x => ?_
          rw [zau, zep]
          constructor
          · rintro rfl
            obtain ⟨q, hq⟩ := ypr hqo
            exact ⟨_, zbh.2 ⟨q, hq, rfl⟩, .inl ⟨rfl, rfl⟩⟩
          · rintro ⟨z, hz, h⟩
            obtain ⟨q, hq, rfl⟩ := zbh.1 hz
            rcases h with ⟨_, rfl⟩ | ⟨h, _⟩
            · rfl
            · exact absurd (show (1 : Int) = 2 from h) (by decide)
        · split
          · rename_i h1 h2
            subst h2
            rw [(ih c (by rw [zbo]; omega)).1 (zfq hqo)]
            refine zzt fun x => ?_
            rw [zep]
            constructor
            · exact fun hx => ⟨_, zbh.2 ⟨x, hx, rfl⟩, .inr ⟨rfl, rfl⟩⟩
            · rintro ⟨z, hz, h⟩
              obtain ⟨q, hq, rfl⟩ := zbh.1 hz
              rcases h with ⟨h, _⟩ | ⟨_, rfl⟩
              · exact absurd (show (2 : Int) = 1 from h) (by decide)
              · exact hq
          · rfl
      | _ => rfl
end Tm
end Go.Rd
