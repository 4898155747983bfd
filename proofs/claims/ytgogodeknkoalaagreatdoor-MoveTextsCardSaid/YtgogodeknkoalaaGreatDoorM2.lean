/- Terms and what goes on, as trees with named kinds; their sorts. Plain Lean, no program in sight. -/
import Derived.Test.YtgogodeknkoalaaGreatDoorM1
namespace Go.Rd
open Go Go.Sv
set_option linter.unusedVariables false
set_option linter.unusedSimpArgs false
inductive Tm where
  | act (s : ByteArray)
  | skip
  | throw
  | yield
  | over (s : Int)
  | seq (a b : Tm)
  | alt (a b : Tm)
  | par (a b : Tm)
  | hand (a b : Tm)
  | block (a : Tm)
  | pair (a b : Tm)
  | going (a b : Tm)
  | stack (a b : Tm)
  | fin (s : Int) (a : Tm)
  deriving DecidableEq
abbrev nd (k : Int) : Nd := (k, ByteArray.empty, 0)
namespace Tm
def t : Tm → T
  | act s => .n0 (1, s, 0)
  | skip => .n0 (nd 2)
  | throw => .n0 (nd 3)
  | yield => .n0 (nd 4)
  | over s => .n0 (11, ByteArray.empty, s)
  | seq a b => .n2 (nd 5) a.t b.t
  | alt a b => .n2 (nd 6) a.t b.t
  | par a b => .n2 (nd 7) a.t b.t
  | hand a b => .n2 (nd 8) a.t b.t
  | block a => .n1 (nd 9) a.t
  | pair a b => .n2 (nd 10) a.t b.t
  | going a b => .n2 (nd 12) a.t b.t
  | stack a b => .n2 (nd 13) a.t b.t
  | fin s a => .n1 (14, ByteArray.empty, s) a.t
def row (m : Tm) : List Nd := m.t.row
def size (m : Tm) : Nat := m.t.size
theorem t_ok (m : Tm) : m.t.ok := by
  induction m <;> first | exact (rfl : ar _ = _) | exact ⟨rfl, by assumption⟩ | exact ⟨rfl, by assumption, by assumption⟩
theorem t_inj : ∀ {a b : Tm}, a.t = b.t → a = b
  | .act s, m, h => by
    cases m <;> simp [t, nd] at h
    rw [h]
  | .over s, m, h => by
    cases m <;> simp [t, nd] at h
    rw [h]
  | .skip, m, h => by cases m <;> simp [t, nd] at h; rfl
  | .throw, m, h => by cases m <;> simp [t, nd] at h; rfl
  | .yield, m, h => by cases m <;> simp [t, nd] at h; rfl
  | .block a, m, h => by
    cases m <;> simp [t, nd] at h
    rw [t_inj h]
  | .fin s a, m, h => by
    cases m <;> simp [t, nd] at h
    rw [h.1, t_inj h.2]
  | .seq a b, m, h => by
    cases m <;> simp [t, nd] at h
    rw [t_inj h.1, t_inj h.2]
  | .alt a b, m, h => by
    cases m <;> simp [t, nd] at h
    rw [t_inj h.1, t_inj h.2]
  | .par a b, m, h => by
    cases m <;> simp [t, nd] at h
    rw [t_inj h.1, t_inj h.2]
  | .hand a b, m, h => by
    cases m <;> simp [t, nd] at h
    rw [t_inj h.1, t_inj h.2]
  | .pair a b, m, h => by
    cases m <;> simp [t, nd] at h
    rw [t_inj h.1, t_inj h.2]
  | .going a b, m, h => by
    cases m <;> simp [t, nd] at h
    rw [t_inj h.1, t_inj h.2]
  | .stack a b, m, h => by
    cases m <;> simp [t, nd] at h
    rw [t_inj h.1, t_inj h.2]
theorem row_inj {a b : Tm} (h : a.row = b.row) : a = b := t_inj (Go.Rd.row_inj a.t_ok b.t_ok h)
theorem len_row (m : Tm) : m.row.length = m.size := T.len_row _
theorem size_pos (m : Tm) : 0 < m.size := T.size_pos _
theorem row_ne (m : Tm) : m.row ≠ [] := T.row_ne _
@[simp] theorem row_act (s : ByteArray) : (act s).row = [(1, s, 0)] := rfl
@[simp] theorem row_skip : skip.row = [nd 2] := rfl
@[simp] theorem row_throw : throw.row = [nd 3] := rfl
@[simp] theorem row_yield : yield.row = [nd 4] := rfl
@[simp] theorem row_over (s : Int) : (over s).row = [(11, ByteArray.empty, s)] := rfl
theorem row_block (a : Tm) : (block a).row = nd 9 :: a.row := rfl
theorem row_fin (s : Int) (a : Tm) : (fin s a).row = (14, ByteArray.empty, s) :: a.row := rfl
theorem size_skip : skip.size = 1 := rfl
theorem size_over (s : Int) : (over s).size = 1 := rfl
theorem size_seq (a b : Tm) : (seq a b).size = a.size + b.size + 1 := rfl
theorem size_alt (a b : Tm) : (alt a b).size = a.size + b.size + 1 := rfl
theorem size_par (a b : Tm) : (par a b).size = a.size + b.size + 1 := rfl
theorem size_hand (a b : Tm) : (hand a b).size = a.size + b.size + 1 := rfl
theorem size_block (a : Tm) : (block a).size = a.size + 1 := rfl
theorem size_pair (a b : Tm) : (pair a b).size = a.size + b.size + 1 := rfl
theorem size_going (a b : Tm) : (going a b).size = a.size + b.size + 1 := rfl
theorem size_stack (a b : Tm) : (stack a b).size = a.size + b.size + 1 := rfl
theorem size_fin (s : Int) (a : Tm) : (fin s a).size = a.size + 1 := rfl
/-- A property of the nodes that are: of the names, and the signs. -/
def good (p : ByteArray → Prop) (q : Int → Prop) : Tm → Prop
  | act s => p s
  | skip | throw | yield => True
  | over s => q s
  | seq a b | alt a b | par a b | hand a b | pair a b | going a b | stack a b => a.good p q ∧ b.good p q
  | block a => a.good p q
  | fin s a => q s ∧ a.good p q
end Tm
/-! ### which nodes may be -/
def lowB (b : UInt8) : Bool := decide (97 ≤ b.toNat) && decide (b.toNat ≤ 122)
def wordsL : List ByteArray := [⟨#[115, 107, 105, 112]⟩, ⟨#[116, 104, 114, 111, 119]⟩, ⟨#[121, 105, 101, 108, 100]⟩, ⟨#[115, 107, 105, 112, 112]⟩, ⟨#[116, 104, 114, 111, 119, 119]⟩, ⟨#[121, 105, 101, 108, 100, 100]⟩]
def nameB (s : ByteArray) : Bool := decide (1 ≤ s.size) && (decide (s.size ≤ 8) && (s.data.toList.all lowB && !decide (s ∈ wordsL)))
def right (n : Nd) : Bool :=
  if n.1 = 1 then nameB n.2.1 && decide (n.2.2 = 0)
  else if n.1 = 11 ∨ n.1 = 14 then decide (n.2.1 = ByteArray.empty) && signB n.2.2
  else (ar n.1).isSome && (decide (n.2.1 = ByteArray.empty) && decide (n.2.2 = 0))
/-- Whether a row is one tree. -/
def one (l : List Nd) : Bool := match P l with | some (_, []) => true | _ => false
theorem one_row {t : T} (h : t.ok) : one t.row = true := by unfold one; rw [P_row' h]
/-- One tree, all of whose nodes may be, and not too many. -/
def whole (l : List Nd) : Bool := l.all right && (decide (l.length ≤ 200) && one l)
abbrev Tm.fine (m : Tm) : Prop := m.good (fun s => nameB s = true) (fun s => signB s = true)
theorem ar0 {k : Int} (h : ar k = some 0) : k = 1 ∨ k = 2 ∨ k = 3 ∨ k = 4 ∨ k = 11 := by
  unfold ar at h
  by_cases h1 : k = 1 ∨ k = 2 ∨ k = 3 ∨ k = 4 ∨ k = 11
  · exact h1
  · rw [if_neg h1] at h
    split at h
    · cases h
    · split at h <;> cases h
theorem ar1 {k : Int} (h : ar k = some 1) : k = 9 ∨ k = 14 := by
  unfold ar at h
  split at h
  · cases h
  · by_cases h1 : k = 9 ∨ k = 14
    · exact h1
    · rw [if_neg h1] at h
      split at h <;> cases h
theorem ar2 {k : Int} (h : ar k = some 2) : k = 5 ∨ k = 6 ∨ k = 7 ∨ k = 8 ∨ k = 10 ∨ k = 12 ∨ k = 13 := by
  unfold ar at h
  split at h
  · cases h
  · split at h
    · cases h
    · split at h
      · assumption
      · cases h
theorem tm_of_t : ∀ {t : T}, t.ok → (∀ n ∈ t.row, right n = true) → ∃ m : Tm, m.t = t ∧ m.fine
  | .n0 n, h, hr => by
    have hn := hr n (by simp [T.row])
    obtain ⟨k, s, z⟩ := n
    rcases ar0 h with rfl | rfl | rfl | rfl | rfl
    · simp only [right, if_true, Bool.and_eq_true, decide_eq_true_eq] at hn
      obtain ⟨h1, rfl⟩ := hn
      exact ⟨.act s, rfl, h1⟩
    · simp [right, ar] at hn
      obtain ⟨rfl, rfl⟩ := hn
      exact ⟨.skip, rfl, trivial⟩
    · simp [right, ar] at hn
      obtain ⟨rfl, rfl⟩ := hn
      exact ⟨.throw, rfl, trivial⟩
    · simp [right, ar] at hn
      obtain ⟨rfl, rfl⟩ := hn
      exact ⟨.yield, rfl, trivial⟩
    · simp [right, ar] at hn
      obtain ⟨rfl, h1⟩ := hn
      exact ⟨.over z, rfl, h1⟩
  | .n1 n a, h, hr => by
    have hn := hr n (by simp [T.row])
    obtain ⟨m, rfl, hm⟩ := tm_of_t (t := a) h.2 fun x hx => hr x (by simp [T.row, hx])
    obtain ⟨k, s, z⟩ := n
    rcases ar1 h.1 with rfl | rfl
    · simp [right, ar] at hn
      obtain ⟨rfl, rfl⟩ := hn
      exact ⟨.block m, rfl, hm⟩
    · simp [right, ar] at hn
      obtain ⟨rfl, h1⟩ := hn
      exact ⟨.fin z m, rfl, h1, hm⟩
  | .n2 n a b, h, hr => by
    have hn := hr n (by simp [T.row])
    obtain ⟨m, rfl, hm⟩ := tm_of_t (t := a) h.2.1 fun x hx => hr x (by simp [T.row, hx])
    obtain ⟨m', rfl, hm'⟩ := tm_of_t (t := b) h.2.2 fun x hx => hr x (by simp [T.row, hx])
    obtain ⟨k, s, z⟩ := n
    rcases ar2 h.1 with rfl | rfl | rfl | rfl | rfl | rfl | rfl <;> (simp [right, ar] at hn; obtain ⟨rfl, rfl⟩ := hn)
    · exact ⟨.seq m m', rfl, hm, hm'⟩
    · exact ⟨.alt m m', rfl, hm, hm'⟩
    · exact ⟨.par m m', rfl, hm, hm'⟩
    · exact ⟨.hand m m', rfl, hm, hm'⟩
    · exact ⟨.pair m m', rfl, hm, hm'⟩
    · exact ⟨.going m m', rfl, hm, hm'⟩
    · exact ⟨.stack m m', rfl, hm, hm'⟩
theorem right_of_fine : ∀ {m : Tm}, m.fine → ∀ n ∈ m.row, right n = true := by
  intro m
  induction m with
  | act s => intro h n hn; rw [Tm.row_act, List.mem_singleton] at hn; subst hn; simp [right]; exact h
  | skip => intro h n hn; rw [Tm.row_skip, List.mem_singleton] at hn; subst hn; simp [right, ar]
  | throw => intro h n hn; rw [Tm.row_throw, List.mem_singleton] at hn; subst hn; simp [right, ar]
  | yield => intro h n hn; rw [Tm.row_yield, List.mem_singleton] at hn; subst hn; simp [right, ar]
  | over s => intro h n hn; rw [Tm.row_over, List.mem_singleton] at hn; subst hn; simp [right, ar]; exact h
  | block a ih =>
    intro h n hn
    rw [Tm.row_block] at hn
    rcases List.mem_cons.1 hn with rfl | hn
    · simp [right, ar]
    · exact ih h n hn
  | fin s a ih =>
    intro h n hn
    rw [Tm.row_fin] at hn
    rcases List.mem_cons.1 hn with rfl | hn
    · simp [right, ar]; exact h.1
    · exact ih h.2 n hn
  | seq a b iha ihb | alt a b iha ihb | par a b iha ihb | hand a b iha ihb | pair a b iha ihb | going a b iha ihb | stack a b iha ihb =>
    intro h n hn
    rcases List.mem_cons.1 hn with rfl | hn
    · simp [right, ar]
    · rcases List.mem_append.1 hn with hn | hn
      · exact iha h.1 n hn
      · exact ihb h.2 n hn
theorem whole_iff {l : List Nd} : whole l = true ↔ ∃ m : Tm, l = m.row ∧ m.fine ∧ m.size ≤ 200 := by
  constructor
  · intro h
    simp only [whole, Bool.and_eq_true, decide_eq_true_eq, List.all_eq_true] at h
    obtain ⟨h1, h2, h3⟩ := h
    unfold one at h3
    split at h3
    · rename_i t hp
      obtain ⟨k1, k2⟩ := P_some hp
      rw [List.append_nil] at k2
      subst k2
      obtain ⟨m, rfl, hm⟩ := tm_of_t k1 h1
      exact ⟨m, rfl, hm, by rw [T.len_row] at h2; exact h2⟩
    · cases h3
  · rintro ⟨m, rfl, hm, hs⟩
    have hP : one m.row = true := one_row m.t_ok
    simp only [whole, Bool.and_eq_true, decide_eq_true_eq, List.all_eq_true, hP]
    exact ⟨fun n hn => right_of_fine hm n hn, by rw [Tm.len_row]; exact hs, trivial⟩
/-! ### sorts -/
namespace Tm
mutual
/-- A plain term. -/
def pl : Tm → Bool
  | act _ | skip | throw | yield => true
  | seq a b | alt a b | par a b | hand a b => a.pl && b.pl
  | block a => a.pa
  | _ => false
/-- A paired term. -/
def pa : Tm → Bool
  | pair a b => a.pl && b.pl
  | seq a b | alt a b | par a b => a.pa && b.pa
  | _ => false
end
mutual
/-- What goes on, plain. -/
def po : Tm → Bool
  | act _ | skip | throw | yield | over _ => true
  | seq a b | hand a b => a.po && b.pl
  | alt a b => a.pl && b.pl
  | par a b => a.po && b.po
  | block a => a.qo
  | _ => false
/-- What goes on, paired. -/
def qo : Tm → Bool
  | pair a b => a.pl && b.pl
  | alt a b => a.pa && b.pa
  | going a b => a.po && b.pl
  | seq a b => a.qo && b.pa
  | par a b => a.qo && b.qo
  | stack a b => a.qo && b.pl
  | fin _ a => a.pl
  | _ => false
end
theorem pl_po_pa_qo : ∀ m : Tm, (m.pl = true → m.po = true) ∧ (m.pa = true → m.qo = true) := by
  intro m
  induction m with
  | act s | skip | throw | yield | over s => simp [pl, pa, po, qo]
  | block a ih => simp only [pl, pa, po, qo]; exact ⟨ih.2, by simp⟩
  | fin s a ih => simp [pl, pa, po, qo]
  | pair a b iha ihb | going a b iha ihb | stack a b iha ihb => simp [pl, pa, po, qo]
  | alt a b iha ihb => simp [pl, pa, po, qo]
  | hand a b iha ihb => simp only [pl, pa, po, qo, Bool.and_eq_true]; exact ⟨fun h => ⟨iha.1 h.1, h.2⟩, by simp⟩
  | seq a b iha ihb => simp only [pl, pa, po, qo, Bool.and_eq_true]; exact ⟨fun h => ⟨iha.1 h.1, h.2⟩, fun h => ⟨iha.2 h.1, h.2⟩⟩
  | par a b iha ihb => simp only [pl, pa, po, qo, Bool.and_eq_true]; exact ⟨fun h => ⟨iha.1 h.1, ihb.1 h.2⟩, fun h => ⟨iha.2 h.1, ihb.2 h.2⟩⟩
theorem po_of_pl {m : Tm} (h : m.pl = true) : m.po = true := (pl_po_pa_qo m).1 h
theorem qo_of_pa {m : Tm} (h : m.pa = true) : m.qo = true := (pl_po_pa_qo m).2 h
theorem po_qo : ∀ m : Tm, m.po = true → m.qo = false := by
  intro m
  induction m with
  | act s | skip | throw | yield | over s => simp [po, qo]
  | block a ih => simp [po, qo]
  | fin s a ih => simp [po, qo]
  | pair a b iha ihb | going a b iha ihb | stack a b iha ihb => simp [po, qo]
  | hand a b iha ihb => simp [po, qo]
  | alt a b iha ihb =>
    simp only [po, qo, Bool.and_eq_true]
    intro h
    have h1 := iha (po_of_pl h.1)
    have : a.pa = false := by
      cases h2 : a.pa with
      | false => rfl
      | true => rw [qo_of_pa h2] at h1; cases h1
    simp [this]
  | seq a b iha ihb => simp only [po, qo, Bool.and_eq_true]; intro h; simp [iha h.1]
  | par a b iha ihb => simp only [po, qo, Bool.and_eq_true]; intro h; simp [iha h.1]
/-- The sort, as a number. -/
def so (m : Tm) : Int := if m.pl then 1 else if m.pa then 2 else if m.po then 3 else if m.qo then 4 else 0
/-- What there can be. -/
theorem cls (m : Tm) : (m.so = 1 ∧ m.pl = true ∧ m.pa = false ∧ m.po = true ∧ m.qo = false) ∨ (m.so = 2 ∧ m.pl = false ∧ m.pa = true ∧ m.po = false ∧ m.qo = true) ∨
    (m.so = 3 ∧ m.pl = false ∧ m.pa = false ∧ m.po = true ∧ m.qo = false) ∨ (m.so = 4 ∧ m.pl = false ∧ m.pa = false ∧ m.po = false ∧ m.qo = true) ∨ (m.so = 0 ∧ m.pl = false ∧ m.pa = false ∧ m.po = false ∧ m.qo = false) := by
  have h1 := @po_of_pl m
  have h2 := @qo_of_pa m
  have h3 := po_qo m
  unfold so
  cases e1 : m.pl <;> cases e2 : m.pa <;> cases e3 : m.po <;> cases e4 : m.qo <;> simp_all
end Tm
end Go.Rd
