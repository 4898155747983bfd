/- Meanings: the traces of what is plain, the pairs of what is paired; how many there are. Plain Lean, no program in sight. -/
import Derived.Test.YtjogkjgpbeenfaaGreatDoorM4
import Derived.Test.YtjogkjgpbeenfaaGreatDoorM7
namespace Go.Rd
open Go Go.Sv
set_option linter.unusedVariables false
set_option linter.unusedSimpArgs false
abbrev Qc := Tc × Tc
/-! ### how traces, and pairs, are put together -/
def behT (p q : Tc) : Tc := (p.1 ++ q.1, q.2)
def qbl (p q : Tc) : Tc := if p.2 = 2 then behT p q else p
def goF (x y : Tc) : Qc := (x, if x.2 = 1 then y else ([], 1))
def seqF (a b : Qc) : Qc := if a.1.2 = 1 then (zir a.1 b.1, zir b.2 a.2) else a
def parF (a b : Qc) : List Qc := (parE (bs a.1.2 b.1.2) a.1.1 b.1.1).flatMap fun p => (parE (bs a.2.2 b.2.2) a.2.1 b.2.1).map fun q => (p, q)
def blkF (x : Qc) : List Tc := if x.1.2 = 1 then [x.1] else if x.1.2 = 2 then [behT x.1 x.2] else []
def zeh {α β γ : Type} (A : List α) (B : List β) (f : α → β → List γ) : List γ := A.flatMap fun a => B.flatMap fun b => f a b
def zhq {α β γ : Type} (A : List α) (B : List β) (f : α → β → γ) : List γ := zeh A B fun a b => [f a b]
theorem zwx {α β γ : Type} {A : List α} {B : List β} {f : α → β → List γ} {z : γ} : z ∈ zeh A B f ↔ ∃ a ∈ A, ∃ b ∈ B, z ∈ f a b := by
  unfold zeh
  simp only [List.mem_flatMap]
theorem zgv {α β γ : Type} {A : List α} {B : List β} {f : α → β → γ} {z : γ} : z ∈ zhq A B f ↔ ∃ a ∈ A, ∃ b ∈ B, z = f a b := by
  unfold zhq
  simp only [zwx, List.mem_singleton]
theorem zoz {α γ : Type} {f : α → List γ} {k : Nat} : ∀ {A : List α}, (∀ a ∈ A, (f a).length ≤ k) → (A.flatMap f).length ≤ A.length * k
  | [], _ => by simp
  | a :: A, h => by
    have h1 := h a (List.mem_cons_self ..)
    have h2 := zoz (A := A) fun b hb => h b (List.mem_cons_of_mem _ hb)
    simp only [List.flatMap_cons, List.length_append, List.length_cons, Nat.add_mul, Nat.one_mul]
    omega
theorem qjd {α β γ : Type} {A : List α} {B : List β} {f : α → β → List γ} {k : Nat} (h : ∀ a ∈ A, ∀ b ∈ B, (f a b).length ≤ k) : (zeh A B f).length ≤ A.length * (B.length * k) :=
  zoz fun a ha => zoz fun b hb => h a ha b hb
theorem qts {α β γ : Type} {A : List α} {B : List β} {f : α → β → γ} : (zhq A B f).length ≤ A.length * B.length := by
  have := qjd (A := A) (B := B) (f := fun a b => [f a b]) (k := 1) fun a _ b _ => by simp
  rwa [Nat.mul_one] at this
namespace Tm
def sem : Tm → List Tc × List Qc
  | act s => (canon cmpT [([s], 1)], [])
  | skip => (canon cmpT [([], 1)], [])
  | throw => (canon cmpT [([], 2)], [])
  | yield => (canon cmpT [([], 1), ([], 3)], [])
  | over s => (canon cmpT [([], s)], [])
  | seq a b => (canon cmpT (zhq a.sem.1 b.sem.1 zir), canon cmpQ (zhq a.sem.2 b.sem.2 seqF))
  | alt a b => (canon cmpT (a.sem.1 ++ b.sem.1), canon cmpQ (a.sem.2 ++ b.sem.2))
  | par a b => (canon cmpT (zeh a.sem.1 b.sem.1 fun p q => parE (bs p.2 q.2) p.1 q.1), canon cmpQ (zeh a.sem.2 b.sem.2 parF))
  | hand a b => (canon cmpT (zhq a.sem.1 b.sem.1 qbl), [])
  | block a => (canon cmpT (a.sem.2.flatMap blkF), [])
  | pair a b => ([], canon cmpQ (zhq a.sem.1 b.sem.1 goF ++ [(([], 3), ([], 1))]))
  | going a b => ([], canon cmpQ (zhq a.sem.1 b.sem.1 goF))
  | stack a c => ([], canon cmpQ (zhq a.sem.2 c.sem.1 fun x q => (x.1, zir x.2 q)))
  | fin s c => ([], canon cmpQ (c.sem.1.map fun q => (([], s), q)))
def tr (m : Tm) : List Tc := m.sem.1
def pq (m : Tm) : List Qc := m.sem.2
theorem qcq {s : ByteArray} {x : Tc} : x ∈ (act s).tr ↔ x = ([s], 1) := (zbv ordT).trans List.mem_singleton
theorem zow {x : Tc} : x ∈ skip.tr ↔ x = ([], 1) := (zbv ordT).trans List.mem_singleton
theorem qkl {x : Tc} : x ∈ throw.tr ↔ x = ([], 2) := (zbv ordT).trans List.mem_singleton
theorem zpw {x : Tc} : x ∈ yield.tr ↔ x = ([], 1) ∨ x = ([], 3) := (zbv ordT).trans (by simp)
theorem zau {s : Int} {x : Tc} : x ∈ (over s).tr ↔ x = ([], s) := (zbv ordT).trans List.mem_singleton
theorem zgt {a b : Tm} {x : Tc} : x ∈ (seq a b).tr ↔ ∃ p ∈ a.tr, ∃ q ∈ b.tr, x = zir p q := (zbv ordT).trans zgv
theorem zwu {a b : Tm} {x : Tc} : x ∈ (alt a b).tr ↔ x ∈ a.tr ∨ x ∈ b.tr := (zbv ordT).trans List.mem_append
theorem zfr {a b : Tm} {x : Tc} : x ∈ (par a b).tr ↔ ∃ p ∈ a.tr, ∃ q ∈ b.tr, Mx p.1 q.1 x.1 ∧ x.2 = bs p.2 q.2 := by
  refine (zbv ordT).trans (zwx.trans ?_)
  simp only [qcr]; rfl
theorem zhj {a b : Tm} {x : Tc} : x ∈ (hand a b).tr ↔ ∃ p ∈ a.tr, ∃ q ∈ b.tr, x = qbl p q := (zbv ordT).trans zgv
theorem ygg {z : Qc} {x : Tc} : x ∈ blkF z ↔ (z.1.2 = 1 ∧ x = z.1) ∨ (z.1.2 = 2 ∧ x = behT z.1 z.2) := by
  unfold blkF
  split
  · rename_i h; simp [h]
  · rename_i h
    split
    · rename_i h2; simp [h2]
    · rename_i h2; simp [h, h2]
theorem zep {a : Tm} {x : Tc} : x ∈ (block a).tr ↔ ∃ z ∈ a.pq, (z.1.2 = 1 ∧ x = z.1) ∨ (z.1.2 = 2 ∧ x = behT z.1 z.2) := by
  refine (zbv ordT).trans ?_
  simp only [List.mem_flatMap, ygg]; rfl
theorem zjk {a b : Tm} {x : Qc} : x ∈ (seq a b).pq ↔ ∃ p ∈ a.pq, ∃ q ∈ b.pq, x = seqF p q := (zbv ordQ).trans zgv
theorem zwv {a b : Tm} {x : Qc} : x ∈ (alt a b).pq ↔ x ∈ a.pq ∨ x ∈ b.pq := (zbv ordQ).trans List.mem_append
theorem yge {a b x : Qc} : x ∈ parF a b ↔ (Mx a.1.1 b.1.1 x.1.1 ∧ x.1.2 = bs a.1.2 b.1.2) ∧ Mx a.2.1 b.2.1 x.2.1 ∧ x.2.2 = bs a.2.2 b.2.2 := by
  unfold parF
  simp only [List.mem_flatMap, List.mem_map]
  constructor
  · rintro ⟨p, hp, q, hq, rfl⟩
    exact ⟨qcr.1 hp, qcr.1 hq⟩
  · rintro ⟨h1, h2⟩
    exact ⟨x.1, qcr.2 h1, x.2, qcr.2 h2, rfl⟩
theorem zgu {a b : Tm} {x : Qc} : x ∈ (par a b).pq ↔ ∃ p ∈ a.pq, ∃ q ∈ b.pq, (Mx p.1.1 q.1.1 x.1.1 ∧ x.1.2 = bs p.1.2 q.1.2) ∧ Mx p.2.1 q.2.1 x.2.1 ∧ x.2.2 = bs p.2.2 q.2.2 := by
  refine (zbv ordQ).trans (zwx.trans ?_)
  simp only [yge]; rfl
theorem zsu {a b : Tm} {x : Qc} : x ∈ (pair a b).pq ↔ (∃ p ∈ a.tr, ∃ q ∈ b.tr, x = goF p q) ∨ x = (([], 3), ([], 1)) := by
  refine (zbv ordQ).trans (List.mem_append.trans ?_)
  rw [zgv, List.mem_singleton]; rfl
theorem zfi {a b : Tm} {x : Qc} : x ∈ (going a b).pq ↔ ∃ p ∈ a.tr, ∃ q ∈ b.tr, x = goF p q := (zbv ordQ).trans zgv
theorem zhc {a c : Tm} {x : Qc} : x ∈ (stack a c).pq ↔ ∃ p ∈ a.pq, ∃ q ∈ c.tr, x = (p.1, zir p.2 q) := (zbv ordQ).trans zgv
theorem zbh {s : Int} {c : Tm} {x : Qc} : x ∈ (fin s c).pq ↔ ∃ q ∈ c.tr, x = (([], s), q) := by
  refine (zbv ordQ).trans (List.mem_map.trans ?_)
  constructor
  · rintro ⟨q, h, rfl⟩; exact ⟨q, h, rfl⟩
  · rintro ⟨q, h, rfl⟩; exact ⟨q, h, rfl⟩
theorem ykk : ∀ m : Tm, Srt cmpT m.tr ∧ Srt cmpQ m.pq
  | act s | skip | throw | yield | over s | hand a b | block a => ⟨zmb ordT _, .nil⟩
  | seq a b | alt a b | par a b => ⟨zmb ordT _, zmb ordQ _⟩
  | pair a b | going a b | stack a b | fin s a => ⟨.nil, zmb ordQ _⟩
theorem ykj (m : Tm) : Srt cmpT m.tr := (ykk m).1
theorem ysq (m : Tm) : Srt cmpQ m.pq := (ykk m).2
theorem zzt {a b : Tm} (h : ∀ x, x ∈ a.tr ↔ x ∈ b.tr) : a.tr = b.tr := qip ordT (ykj a) (ykj b) h
theorem qdo {a b : Tm} (h : ∀ x, x ∈ a.pq ↔ x ∈ b.pq) : a.pq = b.pq := qip ordQ (ysq a) (ysq b) h
/-! ### there is one -/
theorem yri {α : Type} : ∀ (p q : List α), ∃ r, Mx p q r
  | [], q => ⟨q, Mx.right q⟩
  | a :: p, q => by
    obtain ⟨r, h⟩ := yri p q
    exact ⟨a :: r, .l h⟩
def s12 (s : Int) : Prop := s = 1 ∨ s = 2
instance (s : Int) : Decidable (s12 s) := by unfold s12; infer_instance
theorem yld {a b : Int} (ha : s12 a) (hb : s12 b) : s12 (bs a b) := by
  rcases ha with rfl | rfl <;> rcases hb with rfl | rfl <;> decide
theorem qvx {p q : Tc} (hp : s12 p.2) (hq : s12 q.2) : s12 (zir p q).2 := by
  unfold zir
  split
  · exact hq
  · exact hp
theorem qbo : ∀ m : Tm, (m.pl = true → ∃ x ∈ m.tr, s12 x.2) ∧ (m.pa = true → ∃ x ∈ m.pq, s12 x.1.2 ∧ s12 x.2.2)
  | act s => ⟨fun _ => ⟨_, qcq.2 rfl, .inl rfl⟩, fun h => by simp [pa] at h⟩
  | skip => ⟨fun _ => ⟨_, zow.2 rfl, .inl rfl⟩, fun h => by simp [pa] at h⟩
  | throw => ⟨fun _ => ⟨_, qkl.2 rfl, .inr rfl⟩, fun h => by simp [pa] at h⟩
  | yield => ⟨fun _ => ⟨_, zpw.2 (.inl rfl), .inl rfl⟩, fun h => by simp [pa] at h⟩
  | over s => ⟨fun h => by simp [pl] at h, fun h => by simp [pa] at h⟩
  | seq a b => by
    refine ⟨fun h => ?_, fun h => ?_⟩
    · simp only [pl, Bool.and_eq_true] at h
      obtain ⟨p, hp, hp2⟩ := (qbo a).1 h.1
      obtain ⟨q, hq, hq2⟩ := (qbo b).1 h.2
      exact ⟨_, zgt.2 ⟨p, hp, q, hq, rfl⟩, qvx hp2 hq2⟩
    · simp only [pa, Bool.and_eq_true] at h
      obtain ⟨p, hp, hp2, hp3⟩ := (qbo a).2 h.1
      obtain ⟨q, hq, hq2, hq3⟩ := (qbo b).2 h.2
      refine ⟨_, zjk.2 ⟨p, hp, q, hq, rfl⟩, ?_⟩
      unfold seqF
      split
      · exact ⟨qvx hp2 hq2, qvx hq3 hp3⟩
      · exact ⟨hp2, hp3⟩
  | alt a b => by
    refine ⟨fun h => ?_, fun h => ?_⟩
    · simp only [pl, Bool.and_eq_true] at h
      obtain ⟨p, hp, hp2⟩ := (qbo a).1 h.1
      exact ⟨_, zwu.2 (.inl hp), hp2⟩
    · simp only [pa, Bool.and_eq_true] at h
      obtain ⟨p, hp, hp2⟩ := (qbo a).2 h.1
      exact ⟨_, zwv.2 (.inl hp), hp2⟩
  | par a b => by
    refine ⟨fun h => ?_, fun h => ?_⟩
    · simp only [pl, Bool.and_eq_true] at h
      obtain ⟨p, hp, hp2⟩ := (qbo a).1 h.1
      obtain ⟨q, hq, hq2⟩ := (qbo b).1 h.2
      obtain ⟨r, hr⟩ := yri p.1 q.1
      exact ⟨(r, bs p.2 q.2), zfr.2 ⟨p, hp, q, hq, hr, rfl⟩, yld hp2 hq2⟩
    · simp only [pa, Bool.and_eq_true] at h
      obtain ⟨p, hp, hp2, hp3⟩ := (qbo a).2 h.1
      obtain ⟨q, hq, hq2, hq3⟩ := (qbo b).2 h.2
      obtain ⟨r, hr⟩ := yri p.1.1 q.1.1
      obtain ⟨s, hs⟩ := yri p.2.1 q.2.1
      exact ⟨((r, bs p.1.2 q.1.2), (s, bs p.2.2 q.2.2)), zgu.2 ⟨p, hp, q, hq, ⟨hr, rfl⟩, hs, rfl⟩, yld hp2 hq2, yld hp3 hq3⟩
  | hand a b => by
    refine ⟨fun h => ?_, fun h => by simp [pa] at h⟩
    simp only [pl, Bool.and_eq_true] at h
    obtain ⟨p, hp, hp2⟩ := (qbo a).1 h.1
    obtain ⟨q, hq, hq2⟩ := (qbo b).1 h.2
    refine ⟨_, zhj.2 ⟨p, hp, q, hq, rfl⟩, ?_⟩
    unfold qbl
    split
    · exact hq2
    · exact hp2
  | block a => by
    refine ⟨fun h => ?_, fun h => by simp [pa] at h⟩
    simp only [pl] at h
    obtain ⟨z, hz, hz2, hz3⟩ := (qbo a).2 h
    rcases hz2 with h1 | h2
    · exact ⟨_, zep.2 ⟨z, hz, .inl ⟨h1, rfl⟩⟩, .inl h1⟩
    · exact ⟨_, zep.2 ⟨z, hz, .inr ⟨h2, rfl⟩⟩, hz3⟩
  | pair a b => by
    refine ⟨fun h => by simp [pl] at h, fun h => ?_⟩
    simp only [pa, Bool.and_eq_true] at h
    obtain ⟨p, hp, hp2⟩ := (qbo a).1 h.1
    obtain ⟨q, hq, hq2⟩ := (qbo b).1 h.2
    refine ⟨_, zsu.2 (.inl ⟨p, hp, q, hq, rfl⟩), hp2, ?_⟩
    show s12 (if p.2 = 1 then q else ([], 1)).2
    split
    · exact hq2
    · exact .inl rfl
  | going a b | stack a b | fin s a => ⟨fun h => by simp [pl] at h, fun h => by simp [pa] at h⟩
theorem ypr {m : Tm} (h : m.pl = true) : ∃ x, x ∈ m.tr := by obtain ⟨x, hx, _⟩ := (qbo m).1 h; exact ⟨x, hx⟩
theorem yys {m : Tm} (h : m.pa = true) : ∃ x, x ∈ m.pq := by obtain ⟨x, hx, _⟩ := (qbo m).2 h; exact ⟨x, hx⟩
/-! ### of which actions -/
def nm : Tm → List ByteArray
  | act s => [s]
  | skip | throw | yield | over _ => []
  | seq a b | alt a b | par a b | hand a b | pair a b | going a b | stack a b => a.nm ++ b.nm
  | block a | fin _ a => a.nm
def wsum (f : ByteArray → Nat) (l : List ByteArray) : Nat := (l.map f).sum
section
variable {f : ByteArray → Nat}
theorem qur : wsum f [] = 0 := rfl
theorem zex (l m : List ByteArray) : wsum f (l ++ m) = wsum f l + wsum f m := by simp [wsum]
theorem yce {p q r : List ByteArray} (h : Mx p q r) : wsum f r = wsum f p + wsum f q := by
  induction h with
  | nil => rfl
  | l _ ih => simp only [wsum, List.map_cons, List.sum_cons] at ih ⊢; omega
  | r _ ih => simp only [wsum, List.map_cons, List.sum_cons] at ih ⊢; omega
theorem qfg (p q : Tc) : wsum f (zir p q).1 ≤ wsum f p.1 + wsum f q.1 := by
  unfold zir
  split
  · rw [zex]; exact Nat.le_refl _
  · omega
theorem zfs : ∀ m : Tm, (∀ x ∈ m.tr, wsum f x.1 ≤ wsum f m.nm) ∧ (∀ x ∈ m.pq, wsum f x.1.1 + wsum f x.2.1 ≤ wsum f m.nm)
  | act s => ⟨fun x hx => by rw [qcq.1 hx]; exact Nat.le_refl _, fun x hx => by cases hx⟩
  | skip => ⟨fun x hx => by rw [zow.1 hx]; exact Nat.le_refl _, fun x hx => by cases hx⟩
  | throw => ⟨fun x hx => by rw [qkl.1 hx]; exact Nat.le_refl _, fun x hx => by cases hx⟩
  | yield => ⟨fun x hx => by rcases zpw.1 hx with h | h <;> rw [h] <;> exact Nat.le_refl _, fun x hx => by cases hx⟩
  | over s => ⟨fun x hx => by rw [zau.1 hx]; exact Nat.le_refl _, fun x hx => by cases hx⟩
  | seq a b => ⟨fun x hx => by
      obtain ⟨p, hp, q, hq, rfl⟩ := zgt.1 hx
      have h1 := (zfs a).1 p hp
      have h2 := (zfs b).1 q hq
      have h3 := qfg (f := f) p q
      rw [nm, zex]; omega, fun x hx => by
      obtain ⟨p, hp, q, hq, rfl⟩ := zjk.1 hx
      have h1 := (zfs a).2 p hp
      have h2 := (zfs b).2 q hq
      have h3 := qfg (f := f) p.1 q.1
      have h4 := qfg (f := f) q.2 p.2
      rw [nm, zex]
      unfold seqF
      split
      · show wsum f (zir p.1 q.1).1 + wsum f (zir q.2 p.2).1 ≤ _
        omega
      · omega⟩
  | alt a b => ⟨fun x hx => by
      rw [nm, zex]
      rcases zwu.1 hx with hx | hx
      · have := (zfs a).1 x hx; omega
      · have := (zfs b).1 x hx; omega, fun x hx => by
      rw [nm, zex]
      rcases zwv.1 hx with hx | hx
      · have := (zfs a).2 x hx; omega
      · have := (zfs b).2 x hx; omega⟩
  | par a b => ⟨fun x hx => by
      obtain ⟨p, hp, q, hq, e, _⟩ := zfr.1 hx
      have h1 := (zfs a).1 p hp
      have h2 := (zfs b).1 q hq
      rw [nm, zex, yce e]; omega, fun x hx => by
      obtain ⟨p, hp, q, hq, ⟨e1, _⟩, e2, _⟩ := zgu.1 hx
      have h1 := (zfs a).2 p hp
      have h2 := (zfs b).2 q hq
      rw [nm, zex, yce e1, yce e2]; omega⟩
  | hand a b => ⟨fun x hx => by
      obtain ⟨p, hp, q, hq, rfl⟩ := zhj.1 hx
      have h1 := (zfs a).1 p hp
      have h2 := (zfs b).1 q hq
      rw [nm, zex]
      unfold qbl
      split
      · show wsum f (p.1 ++ q.1) ≤ _
        rw [zex]; omega
      · omega, fun x hx => by cases hx⟩
  | block a => ⟨fun x hx => by
      obtain ⟨z, hz, ⟨_, rfl⟩ | ⟨_, rfl⟩⟩ := zep.1 hx
      · have := (zfs a).2 z hz; rw [nm]; omega
      · have := (zfs a).2 z hz
        rw [nm]
        show wsum f (z.1.1 ++ z.2.1) ≤ _
        rw [zex]; omega, fun x hx => by cases hx⟩
  | pair a b => ⟨fun x hx => by (cases hx), fun x hx => by
      rw [nm, zex]
      rcases zsu.1 hx with ⟨p, hp, q, hq, rfl⟩ | rfl
      · have h1 := (zfs a).1 p hp
        have h2 := (zfs b).1 q hq
        show wsum f p.1 + wsum f (if p.2 = 1 then q else ([], 1)).1 ≤ _
        split
        · omega
        · rw [qur]; omega
      · exact Nat.zero_le _⟩
  | going a b => ⟨fun x hx => by (cases hx), fun x hx => by
      rw [nm, zex]
      obtain ⟨p, hp, q, hq, rfl⟩ := zfi.1 hx
      have h1 := (zfs a).1 p hp
      have h2 := (zfs b).1 q hq
      show wsum f p.1 + wsum f (if p.2 = 1 then q else ([], 1)).1 ≤ _
      split
      · omega
      · rw [qur]; omega⟩
  | stack a c => ⟨fun x hx => by (cases hx), fun x hx => by
      obtain ⟨p, hp, q, hq, rfl⟩ := zhc.1 hx
      have h1 := (zfs a).2 p hp
      have h2 := (zfs c).1 q hq
      have h3 := qfg (f := f) p.2 q
      rw [nm, zex]
      show wsum f p.1.1 + wsum f (zir p.2 q).1 ≤ _
      omega⟩
  | fin s c => ⟨fun x hx => by (cases hx), fun x hx => by
      obtain ⟨q, hq, rfl⟩ := zbh.1 hx
      have h2 := (zfs c).1 q hq
      rw [nm]
      show wsum f [] + wsum f q.1 ≤ _
      rw [qur]; omega⟩
end
theorem qfh (l : List ByteArray) : wsum (fun _ => 1) l = l.length := by
  induction l with
  | nil => rfl
  | cons a l ih => simp only [wsum, List.map_cons, List.sum_cons, List.length_cons] at ih ⊢; omega
theorem ymu {m : Tm} {x : Tc} (h : x ∈ m.tr) : x.1.length ≤ m.nm.length := by
  have := (zfs (f := fun _ => 1) m).1 x h
  rwa [qfh, qfh] at this
theorem ymw {m : Tm} {x : Qc} (h : x ∈ m.pq) : x.1.1.length + x.2.1.length ≤ m.nm.length := by
  have := (zfs (f := fun _ => 1) m).2 x h
  rwa [qfh, qfh, qfh] at this
/-! ### how many -/
def fct : Nat → Nat
  | 0 => 1
  | n + 1 => (n + 1) * fct n
theorem yee : ∀ n, 1 ≤ fct n
  | 0 => Nat.le_refl _
  | n + 1 => by
    have := yee n
    rw [fct, Nat.succ_mul]; omega
theorem ygo : ∀ {m n : Nat}, m ≤ n → fct m ≤ fct n
  | m, 0, h => by rw [Nat.le_zero.1 h]; exact Nat.le_refl _
  | m, n + 1, h => by
    rcases Nat.lt_or_ge n m with h1 | h1
    · rw [show m = n + 1 by omega]; exact Nat.le_refl _
    · have := ygo h1
      rw [fct, Nat.succ_mul]; omega
theorem qjk : ∀ m n : Nat, chN m n * (fct m * fct n) = fct (m + n)
  | 0, n => by rw [chN, fct, Nat.zero_add]; simp
  | m + 1, 0 => by rw [zyx, Nat.add_zero]; simp [fct]
  | m + 1, n + 1 => by
    have h1 := qjk m (n + 1)
    have h2 := qjk (m + 1) n
    rw [chN, Nat.add_mul]
    have e1 : chN m (n + 1) * (fct (m + 1) * fct (n + 1)) = (m + 1) * fct (m + n + 1) := by
      rw [show m + n + 1 = m + (n + 1) by omega, ← h1, fct]
      simp only [Nat.mul_assoc, Nat.mul_left_comm]
    have e2 : chN (m + 1) n * (fct (m + 1) * fct (n + 1)) = (n + 1) * fct (m + n + 1) := by
      rw [show m + n + 1 = m + 1 + n by omega, ← h2, show fct (n + 1) = (n + 1) * fct n from rfl]
      simp only [Nat.mul_assoc, Nat.mul_left_comm]
    rw [e1, e2, ← Nat.add_mul, show m + 1 + (n + 1) = (m + n + 1) + 1 by omega]
    rfl
theorem yvw (m n : Nat) : fct m * fct n ≤ fct (m + n) := by
  rw [← qjk m n]
  have : 1 ≤ chN m n := by
    have h1 := qjk m n
    have h2 := yee (m + n)
    rcases Nat.eq_zero_or_pos (chN m n) with h | h
    · rw [h, Nat.zero_mul] at h1; omega
    · exact h
  exact Nat.le_mul_of_pos_left _ this
theorem qmq : ∀ m n, chN m n = chN n m
  | 0, n => by rw [zyx, chN]
  | m + 1, 0 => by rw [zyx, chN]
  | m + 1, n + 1 => by rw [chN, chN, qmq m (n + 1), qmq (m + 1) n]; omega
theorem ywb : ∀ m n, chN m n ≤ chN m (n + 1)
  | 0, n => by rw [chN, chN]; exact Nat.le_refl _
  | m + 1, 0 => by rw [zyx, chN]; have := qjk m 1; have h2 := zyx (m + 1); omega
  | m + 1, n + 1 => by
    have h1 := ywb m (n + 1)
    have h2 := ywb (m + 1) n
    rw [chN, show chN (m + 1) (n + 1 + 1) = chN m (n + 1 + 1) + chN (m + 1) (n + 1) from by rw [chN]]
    omega
theorem qmp {m m' n n' : Nat} (hm : m ≤ m') (hn : n ≤ n') : chN m n ≤ chN m' n' := by
  have r : ∀ {a b c : Nat}, b ≤ c → chN a b ≤ chN a c := fun {a b c} h => by
    obtain ⟨d, rfl⟩ := Nat.exists_eq_add_of_le h
    induction d with
    | zero => exact Nat.le_refl _
    | succ d ih => exact Nat.le_trans (ih (by omega)) (ywb a (b + d))
  refine Nat.le_trans (r hn) ?_
  rw [qmq m, qmq m']
  exact r hm
theorem yeq : ∀ (m n m' n' : Nat), chN m n * chN m' n' ≤ chN (m + m') (n + n')
  | 0, n, m', n' => by rw [chN, Nat.one_mul]; exact qmp (by omega) (by omega)
  | m + 1, 0, m', n' => by rw [zyx, Nat.one_mul]; exact qmp (by omega) (by omega)
  | m + 1, n + 1, m', n' => by
    have h1 := yeq m (n + 1) m' n'
    have h2 := yeq (m + 1) n m' n'
    rw [chN, Nat.add_mul, show m + 1 + m' = m + m' + 1 by omega, show n + 1 + n' = n + n' + 1 by omega, chN]
    rw [show n + 1 + n' = n + n' + 1 by omega] at h1
    rw [show m + 1 + m' = m + m' + 1 by omega] at h2
    omega
def cw : Tm → Nat
  | act _ | skip | throw | over _ => 1
  | yield => 2
  | seq a b | par a b | hand a b | going a b | stack a b => a.cw * b.cw
  | alt a b => a.cw + b.cw
  | pair a b => a.cw * b.cw + 1
  | block a | fin _ a => a.cw
def leaves : Tm → Nat
  | act _ | skip | throw | over _ | yield => 1
  | seq a b | par a b | hand a b | going a b | stack a b | alt a b | pair a b => a.leaves + b.leaves
  | block a | fin _ a => a.leaves
theorem zcn : ∀ m : Tm, 2 * m.leaves ≤ m.size + 1
  | act _ | skip | throw | over _ | yield => Nat.le_refl _
  | seq a b => by have := zcn a; have := zcn b; rw [leaves, zcs]; omega
  | par a b => by have := zcn a; have := zcn b; rw [leaves, zet]; omega
  | hand a b => by have := zcn a; have := zcn b; rw [leaves, zdn]; omega
  | going a b => by have := zcn a; have := zcn b; rw [leaves, zez]; omega
  | stack a b => by have := zcn a; have := zcn b; rw [leaves, zgf]; omega
  | alt a b => by have := zcn a; have := zcn b; rw [leaves, qcg]; omega
  | pair a b => by have := zcn a; have := zcn b; rw [leaves, qgb]; omega
  | block a => by have := zcn a; rw [leaves, zbo]; omega
  | fin _ a => by have := zcn a; rw [leaves, zfd]; omega
theorem qql : ∀ m : Tm, 1 ≤ m.cw
  | act _ | skip | throw | over _ => Nat.le_refl _
  | yield => by decide
  | seq a b | par a b | hand a b | going a b | stack a b => by rw [cw]; exact Nat.mul_pos (qql a) (qql b)
  | alt a b => by have := qql a; rw [cw]; omega
  | pair a b => by rw [cw]; omega
  | block a | fin _ a => by rw [cw]; exact qql a
theorem ydl {x y a b : Nat} (hx : x + 1 ≤ a) (hy : y + 1 ≤ b) : x * y + x + y + 1 ≤ a * b := by
  have := Nat.mul_le_mul hx hy
  have e : (x + 1) * (y + 1) = x * y + x + y + 1 := by rw [Nat.add_mul, Nat.mul_add]; omega
  omega
theorem ybn : ∀ m : Tm, m.cw + 1 ≤ 3 ^ m.leaves
  | act _ | skip | throw | over _ => by show 1 + 1 ≤ 3 ^ 1; decide
  | yield => by decide
  | seq a b | par a b | hand a b | going a b | stack a b => by
    have h := ydl (ybn a) (ybn b)
    rw [cw, leaves, Nat.pow_add]; omega
  | alt a b => by
    have h := ydl (ybn a) (ybn b)
    have h1 := qql a
    have h2 := qql b
    rw [cw, leaves, Nat.pow_add]; omega
  | pair a b => by
    have h := ydl (ybn a) (ybn b)
    have h1 := qql a
    rw [cw, leaves, Nat.pow_add]; omega
  | block a | fin _ a => by rw [cw, leaves]; exact ybn a
def big (m : Tm) : Nat := m.cw * fct m.nm.length
theorem yoi {m : Tm} (h1 : m.size ≤ 24) (h2 : m.nm.length ≤ 6) : m.big ≤ 400000000 := by
  have h3 := zcn m
  have h4 := ybn m
  have h5 : 3 ^ m.leaves ≤ 3 ^ 12 := Nat.pow_le_pow_right (by omega) (by omega)
  have h6 := ygo h2
  have : m.cw ≤ 531440 := by
    have : 3 ^ 12 = 531441 := by decide
    omega
  have h7 : m.big ≤ 531440 * fct 6 := Nat.mul_le_mul this h6
  have : fct 6 = 720 := rfl
  omega
theorem yoh (a b : Tm) (x : Nat) (hx : x ≤ a.nm.length + b.nm.length) : a.big * b.big ≤ a.cw * b.cw * fct (a.nm.length + b.nm.length) := by
  unfold big
  rw [Nat.mul_mul_mul_comm]
  exact Nat.mul_le_mul_left _ (yvw _ _)
theorem ywe {a b m : Tm} (hn : m.nm = a.nm ++ b.nm) (hc : a.cw * b.cw ≤ m.cw) : a.big * b.big ≤ m.big := by
  refine Nat.le_trans (yoh a b 0 (by omega)) ?_
  unfold big
  rw [hn, List.length_append]
  exact Nat.mul_le_mul_right _ hc
theorem yok {a b m : Tm} (hn : m.nm = a.nm ++ b.nm) (hc : m.cw = a.cw + b.cw) : a.big + b.big ≤ m.big := by
  unfold big
  rw [hn, hc, List.length_append, Nat.add_mul]
  exact Nat.add_le_add (Nat.mul_le_mul_left _ (ygo (by omega))) (Nat.mul_le_mul_left _ (ygo (by omega)))
theorem yoj {a b : Tm} : a.big * (b.big * chN a.nm.length b.nm.length) = (par a b).big := by
  unfold big
  rw [nm, cw, List.length_append, ← qjk]
  simp only [Nat.mul_assoc, Nat.mul_left_comm, Nat.mul_comm]
theorem qwz (e : Int) (p q : List ByteArray) : (parE e p q).length ≤ chN p.length q.length := by
  unfold parE mixS
  rw [List.length_map]
  exact Nat.le_trans (zax _) (Nat.le_of_eq (zky _ _ _))
theorem ygh (a b : Qc) : (parF a b).length ≤ chN (a.1.1.length + a.2.1.length) (b.1.1.length + b.2.1.length) := by
  unfold parF
  refine Nat.le_trans (zoz (k := chN a.2.1.length b.2.1.length) fun p _ => by rw [List.length_map]; exact qwz _ _ _) ?_
  refine Nat.le_trans (Nat.mul_le_mul_right _ (qwz _ _ _)) ?_
  exact yeq _ _ _ _
theorem yls {a b : Tm} (ha : a.tr.length ≤ a.big) (hb : b.tr.length ≤ b.big) : (zeh a.tr b.tr fun p q => parE (bs p.2 q.2) p.1 q.1).length ≤ (par a b).big := by
  refine Nat.le_trans (qjd (k := chN a.nm.length b.nm.length) fun p hp q hq => Nat.le_trans (qwz _ _ _) (qmp (ymu hp) (ymu hq))) ?_
  rw [← yoj]
  exact Nat.mul_le_mul ha (Nat.mul_le_mul_right _ hb)
theorem yfy {a b : Tm} (ha : a.pq.length ≤ a.big) (hb : b.pq.length ≤ b.big) : (zeh a.pq b.pq parF).length ≤ (par a b).big := by
  refine Nat.le_trans (qjd (k := chN a.nm.length b.nm.length) fun p hp q hq => Nat.le_trans (ygh _ _) (qmp (ymw hp) (ymw hq))) ?_
  rw [← yoj]
  exact Nat.mul_le_mul ha (Nat.mul_le_mul_right _ hb)
theorem zmi {α β γ : Type} {A : List α} {B : List β} {f : α → β → γ} {a b m : Tm} (hA : A.length ≤ a.big) (hB : B.length ≤ b.big) (hn : m.nm = a.nm ++ b.nm) (hc : a.cw * b.cw ≤ m.cw) : (zhq A B f).length ≤ m.big :=
  Nat.le_trans qts (Nat.le_trans (Nat.mul_le_mul hA hB) (ywe hn hc))
theorem yfz {a b : Tm} (ha : a.tr.length ≤ a.big) (hb : b.tr.length ≤ b.big) : (zhq a.tr b.tr goF).length + 1 ≤ (pair a b).big := by
  have h1 : (zhq a.tr b.tr goF).length ≤ a.cw * b.cw * fct (a.nm.length + b.nm.length) := Nat.le_trans qts (Nat.le_trans (Nat.mul_le_mul ha hb) (yoh a b 0 (by omega)))
  have h2 := yee (a.nm.length + b.nm.length)
  unfold big
  rw [cw, nm, List.length_append, Nat.add_mul, Nat.one_mul]
  omega
theorem qzu {Q : List Qc} : (Q.flatMap blkF).length ≤ Q.length := by
  have := zoz (f := blkF) (k := 1) (A := Q) fun x _ => by unfold blkF; split <;> first | simp | (split <;> simp)
  rwa [Nat.mul_one] at this
theorem zbk : ∀ m : Tm, m.tr.length ≤ m.big ∧ m.pq.length ≤ m.big
  | act s => ⟨by show _ ≤ 1; exact Nat.le_refl _, Nat.zero_le _⟩
  | skip => ⟨by show _ ≤ 1; exact Nat.le_refl _, Nat.zero_le _⟩
  | throw => ⟨by show _ ≤ 1; exact Nat.le_refl _, Nat.zero_le _⟩
  | over s => ⟨by show _ ≤ 1; exact Nat.le_refl _, Nat.zero_le _⟩
  | yield => ⟨zax _, Nat.zero_le _⟩
  | seq a b => ⟨Nat.le_trans (zax _) (zmi (zbk a).1 (zbk b).1 rfl (Nat.le_refl _)), Nat.le_trans (zax _) (zmi (zbk a).2 (zbk b).2 rfl (Nat.le_refl _))⟩
  | alt a b => by
    refine ⟨Nat.le_trans (zax _) ?_, Nat.le_trans (zax _) ?_⟩
    · rw [List.length_append]; exact Nat.le_trans (Nat.add_le_add (zbk a).1 (zbk b).1) (yok rfl rfl)
    · rw [List.length_append]; exact Nat.le_trans (Nat.add_le_add (zbk a).2 (zbk b).2) (yok rfl rfl)
  | par a b => ⟨Nat.le_trans (zax _) (yls (zbk a).1 (zbk b).1), Nat.le_trans (zax _) (yfy (zbk a).2 (zbk b).2)⟩
  | hand a b => ⟨Nat.le_trans (zax _) (zmi (zbk a).1 (zbk b).1 rfl (Nat.le_refl _)), Nat.zero_le _⟩
  | block a => ⟨Nat.le_trans (zax _) (Nat.le_trans qzu (zbk a).2), Nat.zero_le _⟩
  | pair a b => ⟨Nat.zero_le _, Nat.le_trans (zax _) (by rw [List.length_append]; exact yfz (zbk a).1 (zbk b).1)⟩
  | going a b => ⟨Nat.zero_le _, Nat.le_trans (zax _) (zmi (zbk a).1 (zbk b).1 rfl (Nat.le_refl _))⟩
  | stack a c => ⟨Nat.zero_le _, Nat.le_trans (zax _) (zmi (zbk a).2 (zbk c).1 rfl (Nat.le_refl _))⟩
  | fin s c => ⟨Nat.zero_le _, Nat.le_trans (zax _) (by rw [List.length_map]; exact (zbk c).1)⟩
theorem zoj : ∀ m : Tm, m.nm.length = m.row.countP fun x => decide (x.1 ∈ ([1] : List Int))
  | act s | skip | throw | yield | over s => rfl
  | seq a b => by rw [nm, List.length_append, zoj a, zoj b, ycs, List.countP_cons_of_neg (by decide), List.countP_append]
  | alt a b => by rw [nm, List.length_append, zoj a, zoj b, yuw, List.countP_cons_of_neg (by decide), List.countP_append]
  | par a b => by rw [nm, List.length_append, zoj a, zoj b, qvy, List.countP_cons_of_neg (by decide), List.countP_append]
  | hand a b => by rw [nm, List.length_append, zoj a, zoj b, qwa, List.countP_cons_of_neg (by decide), List.countP_append]
  | pair a b => by rw [nm, List.length_append, zoj a, zoj b, yqj, List.countP_cons_of_neg (by decide), List.countP_append]
  | going a b => by rw [nm, List.length_append, zoj a, zoj b, qom, List.countP_cons_of_neg (by decide), List.countP_append]
  | stack a b => by rw [nm, List.length_append, zoj a, zoj b, qoj, List.countP_cons_of_neg (by decide), List.countP_append]
  | block a => by rw [nm, zoj a, qal, List.countP_cons_of_neg (by decide)]
  | fin s a => by rw [nm, zoj a, qwb, List.countP_cons_of_neg (by simp)]
def small (m : Tm) : Prop := m.size ≤ 24 ∧ m.nm.length ≤ 6
end Tm
end Go.Rd
