/- What comes of what goes on of itself: settling. Plain Lean, no program in sight. -/
import Derived.Test.YtjogkjgpbeenfaaGreatDoorM3
namespace Go.Rd
open Go Go.Sv
set_option linter.unusedVariables false
set_option linter.unusedSimpArgs false
namespace Tm
def zrb (x c : Tm) : Tm := match x with
  | fin s d => fin s (seq d c)
  | y => stack y c
def par' (x y : Tm) : Tm := match x, y with
  | over s, over z => over (bs s z)
  | fin s c, fin z d => fin (bs s z) (par c d)
  | x, y => par x y
theorem qco (x y : Tm) : (∃ s z, x = over s ∧ y = over z ∧ par' x y = over (bs s z)) ∨ (∃ s c z d, x = fin s c ∧ y = fin z d ∧ par' x y = fin (bs s z) (par c d)) ∨ par' x y = par x y := by
  unfold par'
  split
  · exact .inl ⟨_, _, rfl, rfl, rfl⟩
  · exact .inr (.inl ⟨_, _, _, _, rfl, rfl, rfl⟩)
  · exact .inr (.inr rfl)
theorem andT {a b : Bool} (h : a = true) (k : b = true) : (a && b) = true := by rw [h, k]; rfl
theorem qne (x c : Tm) : (zrb x c).size = x.size + c.size + 1 := by
  cases x <;> simp only [zrb, zfd, zcs, zgf]; omega
theorem ymc (x y : Tm) : (par' x y).size ≤ x.size + y.size + 1 := by
  unfold par'
  split
  · simp only [qgc]; omega
  · simp only [zfd, zet]; omega
  · simp only [zet]; omega
def stS (f : Tm → Tm) : Tm → Tm
  | skip => over 1
  | throw => over 2
  | hand a b => (match f a with
    | over s => if s = 2 then f b else over s
    | y => hand y b)
  | seq a b => (match f a with
    | over s => if s = 1 then f b else over s
    | fin s c => if s = 1 then zrb (f b) c else fin s c
    | y => seq y b)
  | stack a c => zrb (f a) c
  | going a b => (match f a with
    | over s => if s = 1 then fin 1 b else fin s skip
    | y => going y b)
  | par a b => par' (f a) (f b)
  | block a => (match f a with
    | fin s c => if s = 1 then over 1 else if s = 2 then f c else block (fin s c)
    | y => block y)
  | m => m
def stF : Nat → Tm → Tm
  | 0, m => m
  | n + 1, m => stS (stF n) m
theorem ypx {f : Tm → Tm} (hf : ∀ x, (f x).size ≤ x.size) : ∀ m, (stS f m).size ≤ m.size := by
  intro m
  cases m with
  | skip => exact Nat.le_refl _
  | throw => exact Nat.le_refl _
  | hand a b =>
    have h1 := hf a
    have h2 := hf b
    simp only [stS]
    split
    · split
      · rw [zdn]; omega
      · rw [zdn, qgc]; omega
    · rw [zdn, zdn]; omega
  | seq a b =>
    have h1 := hf a
    have h2 := hf b
    simp only [stS]
    split
    · split
      · rw [zcs]; omega
      · rw [zcs, qgc]; omega
    · rename_i s c e
      rw [e, zfd] at h1
      split
      · rw [qne, zcs]; omega
      · rw [zfd, zcs]; omega
    · rw [zcs, zcs]; omega
  | stack a c =>
    have h1 := hf a
    simp only [stS]
    rw [qne, zgf]; omega
  | going a b =>
    have h1 := hf a
    have h2 := b.zes
    simp only [stS]
    split
    · split
      · rw [zez, zfd]; omega
      · rw [zez, zfd, yks]; omega
    · rw [zez, zez]; omega
  | par a b =>
    have h1 := hf a
    have h2 := hf b
    have := ymc (f a) (f b)
    simp only [stS]
    rw [zet]; omega
  | block a =>
    have h1 := hf a
    simp only [stS]
    split
    · rename_i s c e
      rw [e, zfd] at h1
      have h2 := hf c
      split
      · rw [zbo, qgc]; omega
      · split
        · rw [zbo]; omega
        · rw [zbo, zbo, zfd]; omega
    · rw [zbo, zbo]; omega
  | _ => exact Nat.le_refl _
theorem qlz : ∀ (n : Nat) (m : Tm), (stF n m).size ≤ m.size
  | 0, m => Nat.le_refl _
  | n + 1, m => ypx (qlz n) m
theorem qyu {f g : Tm → Tm} {m : Tm} (hf : ∀ x, (f x).size ≤ x.size) (h : ∀ x : Tm, x.size < m.size → f x = g x) : stS f m = stS g m := by
  cases m with
  | hand a b => simp only [stS, h a (by rw [zdn]; omega), h b (by rw [zdn]; omega)]
  | seq a b => simp only [stS, h a (by rw [zcs]; omega), h b (by rw [zcs]; omega)]
  | stack a c => simp only [stS, h a (by rw [zgf]; omega)]
  | going a b => simp only [stS, h a (by rw [zez]; omega)]
  | par a b => simp only [stS, h a (by rw [zet]; omega), h b (by rw [zet]; omega)]
  | block a =>
    have h1 := hf a
    simp only [stS, ← h a (by rw [zbo]; omega)]
    split
    · rename_i s c e
      rw [e, zfd] at h1
      rw [h c (by rw [zbo]; omega)]
    · rfl
  | _ => rfl
theorem yft : ∀ (n : Nat) (m : Tm), m.size ≤ n → stF n m = stF (n + 1) m
  | 0, m, h => by have := m.zes; omega
  | n + 1, m, h => qyu (qlz n) fun x hx => yft n x (by omega)
theorem ysp : ∀ (k : Nat) (m : Tm), stF (m.size + k) m = stF m.size m
  | 0, m => rfl
  | k + 1, m => by
    rw [← ysp k m]
    exact (yft (m.size + k) m (by omega)).symm
def st (m : Tm) : Tm := stF m.size m
theorem zhi (m : Tm) : m.st.size ≤ m.size := qlz _ m
theorem qfu (m : Tm) : m.st = stS st m := by
  have hp := m.zes
  unfold st
  obtain ⟨k, hk⟩ : ∃ k, m.size = k + 1 := ⟨m.size - 1, by omega⟩
  rw [hk]
  refine qyu (qlz k) fun x hx => ?_
  obtain ⟨j, rfl⟩ : ∃ j, k = x.size + j := ⟨k - x.size, by omega⟩
  exact ysp j x
theorem qdh (s : ByteArray) : (act s).st = act s := by rw [qfu]; rfl
theorem qfs : yield.st = yield := by rw [qfu]; rfl
theorem qim : skip.st = over 1 := by rw [qfu]; rfl
theorem zty : throw.st = over 2 := by rw [qfu]; rfl
theorem qio (s : Int) : (over s).st = over s := by rw [qfu]; rfl
theorem qyt (a b : Tm) : (alt a b).st = alt a b := by rw [qfu]; rfl
theorem qin (a b : Tm) : (pair a b).st = pair a b := by rw [qfu]; rfl
theorem qys (s : Int) (a : Tm) : (fin s a).st = fin s a := by rw [qfu]; rfl
def hand' (x b : Tm) : Tm := match x with
  | over s => if s = 2 then b.st else over s
  | y => hand y b
def seq' (x b : Tm) : Tm := match x with
  | over s => if s = 1 then b.st else over s
  | fin s c => if s = 1 then zrb b.st c else fin s c
  | y => seq y b
def qqa (x b : Tm) : Tm := match x with
  | over s => if s = 1 then fin 1 b else fin s skip
  | y => going y b
def block' (x : Tm) : Tm := match x with
  | fin s c => if s = 1 then over 1 else if s = 2 then c.st else block (fin s c)
  | y => block y
theorem zzy (a b : Tm) : (hand a b).st = hand' a.st b := by rw [qfu]; rfl
theorem qft (a b : Tm) : (seq a b).st = seq' a.st b := by rw [qfu]; rfl
theorem qce (a c : Tm) : (stack a c).st = zrb a.st c := by rw [qfu]; rfl
theorem zxq (a b : Tm) : (going a b).st = qqa a.st b := by rw [qfu]; rfl
theorem qnf (a b : Tm) : (par a b).st = par' a.st b.st := by rw [qfu]; rfl
theorem ztz (a : Tm) : (block a).st = block' a.st := by rw [qfu]; rfl
theorem qmd {p : Tm → Prop} (h : ∀ m, (∀ x : Tm, x.size < m.size → p x) → p m) (m : Tm) : p m := by
  have : ∀ n, ∀ m : Tm, m.size < n → p m := by
    intro n
    induction n with
    | zero => intro m hm; omega
    | succ n ih => intro m hm; exact h m fun x hx => ih x (by omega)
  exact this (m.size + 1) m (by omega)
def settled (m : Tm) : Prop := m.st = m
/-! ### kinds are kept -/
theorem ykh : ∀ m : Tm, (m.po = true → m.st.po = true) ∧ (m.qo = true → m.st.qo = true) := by
  intro m
  refine qmd (p := fun m => (m.po = true → m.st.po = true) ∧ (m.qo = true → m.st.qo = true)) (fun m ih => ?_) m
  cases m with
  | act s => rw [qdh]; exact ⟨fun h => h, fun h => h⟩
  | skip => rw [qim]; exact ⟨fun h => rfl, fun h => by cases h⟩
  | throw => rw [zty]; exact ⟨fun h => rfl, fun h => by cases h⟩
  | yield => rw [qfs]; exact ⟨fun h => h, fun h => h⟩
  | over s => rw [qio]; exact ⟨fun h => h, fun h => h⟩
  | alt a b => rw [qyt]; exact ⟨fun h => h, fun h => h⟩
  | pair a b => rw [qin]; exact ⟨fun h => h, fun h => h⟩
  | fin s a => rw [qys]; exact ⟨fun h => h, fun h => h⟩
  | hand a b =>
    obtain ⟨iha, _⟩ := ih a (by rw [zdn]; omega)
    obtain ⟨ihb, _⟩ := ih b (by rw [zdn]; omega)
    rw [zzy]
    refine ⟨fun h => ?_, fun h => by cases h⟩
    simp only [po, Bool.and_eq_true] at h
    have h1 := iha h.1
    generalize a.st = x at h1
    cases x <;> simp only [hand'] <;> first | exact andT h1 h.2 | skip
    split
    · exact ihb (zfq h.2)
    · rfl
  | seq a b =>
    obtain ⟨iha, iha'⟩ := ih a (by rw [zcs]; omega)
    obtain ⟨ihb, ihb'⟩ := ih b (by rw [zcs]; omega)
    rw [qft]
    refine ⟨fun h => ?_, fun h => ?_⟩
    · simp only [po, Bool.and_eq_true] at h
      have h1 := iha h.1
      generalize a.st = x at h1
      cases x <;> simp only [seq'] <;> first | exact andT h1 h.2 | skip
      · split
        · exact ihb (zfq h.2)
        · rfl
      · cases h1
    · simp only [qo, Bool.and_eq_true] at h
      have h1 := iha' h.1
      generalize a.st = x at h1
      cases x <;> simp only [seq'] <;> first | exact andT h1 h.2 | skip
      · cases h1
      · split
        · have h2 := ihb' (zrt h.2)
          rename_i s c _
          have h1' : c.pl = true := h1
          generalize b.st = y at h2
          cases y <;> simp only [zrb] <;> first | exact andT h2 h1' | exact andT h2 h1'
        · exact h1
  | stack a c =>
    obtain ⟨_, iha⟩ := ih a (by rw [zgf]; omega)
    rw [qce]
    refine ⟨fun h => (by cases h), fun h => ?_⟩
    simp only [qo, Bool.and_eq_true] at h
    have h1 := iha h.1
    generalize a.st = x at h1
    cases x <;> simp only [zrb] <;> exact andT h1 h.2
  | going a b =>
    obtain ⟨iha, _⟩ := ih a (by rw [zez]; omega)
    rw [zxq]
    refine ⟨fun h => (by cases h), fun h => ?_⟩
    simp only [qo, Bool.and_eq_true] at h
    have h1 := iha h.1
    generalize a.st = x at h1
    cases x <;> simp only [qqa] <;> first | exact andT h1 h.2 | skip
    split
    · exact h.2
    · rfl
  | par a b =>
    obtain ⟨iha, iha'⟩ := ih a (by rw [zet]; omega)
    obtain ⟨ihb, ihb'⟩ := ih b (by rw [zet]; omega)
    rw [qnf]
    refine ⟨fun h => ?_, fun h => ?_⟩
    · simp only [po, Bool.and_eq_true] at h
      have h1 := iha h.1
      have h2 := ihb h.2
      generalize a.st = x at h1
      generalize b.st = y at h2
      unfold par'
      split
      · rfl
      · cases h1
      · simp only [po, Bool.and_eq_true]; exact ⟨h1, h2⟩
    · simp only [qo, Bool.and_eq_true] at h
      have h1 := iha' h.1
      have h2 := ihb' h.2
      generalize a.st = x at h1
      generalize b.st = y at h2
      unfold par'
      split
      · cases h1
      · simp only [qo, pl, Bool.and_eq_true] at h1 h2 ⊢; exact ⟨h1, h2⟩
      · simp only [qo, Bool.and_eq_true]; exact ⟨h1, h2⟩
  | block a =>
    obtain ⟨_, iha⟩ := ih a (by rw [zbo]; omega)
    have hsz := a.zhi
    rw [ztz]
    refine ⟨fun h => ?_, fun h => by cases h⟩
    have h1 := iha h
    generalize a.st = x at h1 hsz
    cases x <;> simp only [block'] <;> first | exact h1 | skip
    rename_i s c
    split
    · rfl
    · split
      · exact (ih c (by rw [zbo]; rw [zfd] at hsz; omega)).1 (zfq h1)
      · exact h1
theorem ykg {m : Tm} (h : m.po = true) : m.st.po = true := (ykh m).1 h
theorem ypw {m : Tm} (h : m.qo = true) : m.st.qo = true := (ykh m).2 h
theorem yui {p : ByteArray → Prop} {q : Int → Prop} (q1 : q 1) (q2 : q 2) (qb : ∀ a b, q a → q b → q (bs a b)) : ∀ m : Tm, m.good p q → m.st.good p q := by
  intro m
  refine qmd (p := fun m => m.good p q → m.st.good p q) (fun m ih => ?_) m
  have gs : ∀ x c : Tm, x.good p q → c.good p q → (zrb x c).good p q := fun x c hx hc => by
    cases x <;> simp only [zrb, good] at hx ⊢ <;> first | exact ⟨hx, hc⟩ | exact ⟨hx.1, hx.2, hc⟩
  cases m with
  | act s => rw [qdh]; exact fun h => h
  | skip => rw [qim]; exact fun _ => q1
  | throw => rw [zty]; exact fun _ => q2
  | yield => rw [qfs]; exact fun h => h
  | over s => rw [qio]; exact fun h => h
  | alt a b => rw [qyt]; exact fun h => h
  | pair a b => rw [qin]; exact fun h => h
  | fin s a => rw [qys]; exact fun h => h
  | hand a b =>
    intro h
    have h1 := ih a (by rw [zdn]; omega) h.1
    have h2 := ih b (by rw [zdn]; omega) h.2
    rw [zzy]
    generalize a.st = x at h1
    cases x <;> simp only [hand'] <;> first | exact ⟨h1, h.2⟩ | skip
    split
    · exact h2
    · exact h1
  | seq a b =>
    intro h
    have h1 := ih a (by rw [zcs]; omega) h.1
    have h2 := ih b (by rw [zcs]; omega) h.2
    rw [qft]
    generalize a.st = x at h1
    cases x <;> simp only [seq'] <;> first | exact ⟨h1, h.2⟩ | skip
    · split
      · exact h2
      · exact h1
    · split
      · exact gs _ _ h2 h1.2
      · exact h1
  | stack a c =>
    intro h
    rw [qce]
    exact gs _ _ (ih a (by rw [zgf]; omega) h.1) h.2
  | going a b =>
    intro h
    have h1 := ih a (by rw [zez]; omega) h.1
    rw [zxq]
    generalize a.st = x at h1
    cases x <;> simp only [qqa] <;> first | exact ⟨h1, h.2⟩ | skip
    split
    · exact ⟨q1, h.2⟩
    · exact ⟨h1, trivial⟩
  | par a b =>
    intro h
    have h1 := ih a (by rw [zet]; omega) h.1
    have h2 := ih b (by rw [zet]; omega) h.2
    rw [qnf]
    generalize a.st = x at h1
    generalize b.st = y at h2
    unfold par'
    split
    · exact qb _ _ h1 h2
    · exact ⟨qb _ _ h1.1 h2.1, h1.2, h2.2⟩
    · exact ⟨h1, h2⟩
  | block a =>
    intro h
    have h1 := ih a (by rw [zbo]; omega) h
    have hsz := a.zhi
    rw [ztz]
    generalize a.st = x at h1 hsz
    cases x <;> simp only [block'] <;> first | exact h1 | skip
    rename_i s c
    split
    · exact q1
    · split
      · exact ih c (by rw [zbo]; rw [zfd] at hsz; omega) h1.2
      · exact h1
theorem yki {m : Tm} (h : m.fine) : m.st.fine := yui (by decide) (by decide) (fun a b ha hb => ywd ha hb) m h
end Tm
end Go.Rd
