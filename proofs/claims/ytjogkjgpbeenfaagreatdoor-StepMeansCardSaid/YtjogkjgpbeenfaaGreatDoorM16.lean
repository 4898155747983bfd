/- Places of a term as contexts: what stands around a waiting place, what comes of it. Plain Lean, no program in sight. -/
import Derived.Test.YtjogkjgpbeenfaaGreatDoorR11
namespace Go.Rd
open Go Go.Sv
set_option linter.unusedVariables false
set_option linter.unusedSimpArgs false
inductive Cx where
  | hole
  | seq (c : Cx) (b : Tm)
  | hand (c : Cx) (b : Tm)
  | going (c : Cx) (b : Tm)
  | stack (c : Cx) (b : Tm)
  | parL (c : Cx) (b : Tm)
  | parR (a : Tm) (c : Cx)
  | block (c : Cx)
namespace Cx
def fill : Cx → Tm → Tm
  | hole, x => x
  | seq c b, x => .seq (c.fill x) b
  | hand c b, x => .hand (c.fill x) b
  | going c b, x => .going (c.fill x) b
  | stack c b, x => .stack (c.fill x) b
  | parL c b, x => .par (c.fill x) b
  | parR a c, x => .par a (c.fill x)
  | block c, x => .block (c.fill x)
def pos : Cx → Nat
  | hole => 0
  | seq c _ => c.pos + 1
  | hand c _ => c.pos + 1
  | going c _ => c.pos + 1
  | stack c _ => c.pos + 1
  | parL c _ => c.pos + 1
  | parR a c => c.pos + 1 + a.size
  | block c => c.pos + 1
theorem zmn : ∀ c : Cx, ∃ A B : List Nd, A.length = c.pos ∧ ∀ x : Tm, (c.fill x).row = A ++ (x.row ++ B)
  | hole => ⟨[], [], rfl, fun x => by simp [fill]⟩
  | seq c b => by
    obtain ⟨A, B, h1, h2⟩ := zmn c
    exact ⟨nd 5 :: A, B ++ b.row, by simp [pos, h1], fun x => by simp [fill, Tm.ycs, h2]⟩
  | hand c b => by
    obtain ⟨A, B, h1, h2⟩ := zmn c
    exact ⟨nd 8 :: A, B ++ b.row, by simp [pos, h1], fun x => by simp [fill, Tm.qwa, h2]⟩
  | going c b => by
    obtain ⟨A, B, h1, h2⟩ := zmn c
    exact ⟨nd 12 :: A, B ++ b.row, by simp [pos, h1], fun x => by simp [fill, Tm.qom, h2]⟩
  | stack c b => by
    obtain ⟨A, B, h1, h2⟩ := zmn c
    exact ⟨nd 13 :: A, B ++ b.row, by simp [pos, h1], fun x => by simp [fill, Tm.qoj, h2]⟩
  | parL c b => by
    obtain ⟨A, B, h1, h2⟩ := zmn c
    exact ⟨nd 7 :: A, B ++ b.row, by simp [pos, h1], fun x => by simp [fill, Tm.qvy, h2]⟩
  | parR a c => by
    obtain ⟨A, B, h1, h2⟩ := zmn c
    exact ⟨nd 7 :: (a.row ++ A), B, by simp only [List.length_cons, List.length_append, Tm.zac, pos, h1]; omega, fun x => by simp [fill, Tm.qvy, h2]⟩
  | block c => by
    obtain ⟨A, B, h1, h2⟩ := zmn c
    exact ⟨nd 9 :: A, B, by simp [pos, h1], fun x => by simp [fill, Tm.qal, h2]⟩
theorem ynh (c : Cx) (x y : Tm) : (c.fill x).size + y.size = (c.fill y).size + x.size := by
  obtain ⟨A, B, h1, h2⟩ := zmn c
  have e1 := congrArg List.length (h2 x)
  have e2 := congrArg List.length (h2 y)
  simp only [List.length_append, Tm.zac] at e1 e2
  omega
theorem zew : ∀ (c : Cx) {u x : Tm}, (c.fill u).fine → (x.fine → (c.fill x).fine) ∧ u.fine
  | hole, u, x, h => ⟨fun k => k, h⟩
  | seq c b, u, x, h => ⟨fun k => ⟨(zew c h.1).1 k, h.2⟩, (zew c (x := x) h.1).2⟩
  | hand c b, u, x, h => ⟨fun k => ⟨(zew c h.1).1 k, h.2⟩, (zew c (x := x) h.1).2⟩
  | going c b, u, x, h => ⟨fun k => ⟨(zew c h.1).1 k, h.2⟩, (zew c (x := x) h.1).2⟩
  | stack c b, u, x, h => ⟨fun k => ⟨(zew c h.1).1 k, h.2⟩, (zew c (x := x) h.1).2⟩
  | parL c b, u, x, h => ⟨fun k => ⟨(zew c h.1).1 k, h.2⟩, (zew c (x := x) h.1).2⟩
  | parR a c, u, x, h => ⟨fun k => ⟨h.1, (zew c h.2).1 k⟩, (zew c (x := x) h.2).2⟩
  | block c, u, x, h => ⟨fun k => (zew c (u := u) h).1 k, (zew c (x := x) (u := u) h).2⟩
theorem zqc {u x : Tm} (h1 : u.po = true → x.po = true) (h2 : u.qo = true → x.qo = true) : ∀ c : Cx, ((c.fill u).po = true → (c.fill x).po = true) ∧ ((c.fill u).qo = true → (c.fill x).qo = true)
  | hole => ⟨h1, h2⟩
  | seq c b => by
    obtain ⟨k1, k2⟩ := zqc h1 h2 c
    simp only [fill, Tm.po, Tm.qo, Bool.and_eq_true]
    exact ⟨fun h => ⟨k1 h.1, h.2⟩, fun h => ⟨k2 h.1, h.2⟩⟩
  | hand c b => by
    obtain ⟨k1, k2⟩ := zqc h1 h2 c
    simp only [fill, Tm.po, Tm.qo, Bool.and_eq_true]
    exact ⟨fun h => ⟨k1 h.1, h.2⟩, fun h => h⟩
  | going c b => by
    obtain ⟨k1, k2⟩ := zqc h1 h2 c
    simp only [fill, Tm.po, Tm.qo, Bool.and_eq_true]
    exact ⟨fun h => h, fun h => ⟨k1 h.1, h.2⟩⟩
  | stack c b => by
    obtain ⟨k1, k2⟩ := zqc h1 h2 c
    simp only [fill, Tm.po, Tm.qo, Bool.and_eq_true]
    exact ⟨fun h => h, fun h => ⟨k2 h.1, h.2⟩⟩
  | parL c b => by
    obtain ⟨k1, k2⟩ := zqc h1 h2 c
    simp only [fill, Tm.po, Tm.qo, Bool.and_eq_true]
    exact ⟨fun h => ⟨k1 h.1, h.2⟩, fun h => ⟨k2 h.1, h.2⟩⟩
  | parR a c => by
    obtain ⟨k1, k2⟩ := zqc h1 h2 c
    simp only [fill, Tm.po, Tm.qo, Bool.and_eq_true]
    exact ⟨fun h => ⟨h.1, k1 h.2⟩, fun h => ⟨h.1, k2 h.2⟩⟩
  | block c => by
    obtain ⟨k1, k2⟩ := zqc h1 h2 c
    simp only [fill, Tm.po, Tm.qo]
    exact ⟨k2, fun h => h⟩
theorem qkj : ∀ (m : Tm) (i k : Nat), k ∈ m.t.wts i → ∃ (c : Cx) (u : Tm), m = c.fill u ∧ u.Wt ∧ k = i + c.pos
  | .act s, i, k, h => ⟨hole, .act s, rfl, .inl ⟨s, rfl⟩, by simpa [Tm.t, T.wts, zge, pos] using h⟩
  | .yield, i, k, h => ⟨hole, .yield, rfl, .inr (.inr (.inl rfl)), by simpa [Tm.t, T.wts, zge, pos] using h⟩
  | .alt a b, i, k, h => ⟨hole, .alt a b, rfl, .inr (.inl ⟨a, b, rfl⟩), by simpa [Tm.t, T.wts, zge, pos] using h⟩
  | .pair a b, i, k, h => ⟨hole, .pair a b, rfl, .inr (.inr (.inr ⟨a, b, rfl⟩)), by simpa [Tm.t, T.wts, zge, pos] using h⟩
  | .skip, i, k, h => by simp [Tm.t, T.wts, zge] at h
  | .throw, i, k, h => by simp [Tm.t, T.wts, zge] at h
  | .over s, i, k, h => by simp [Tm.t, T.wts, zge] at h
  | .fin s a, i, k, h => by simp [Tm.t, T.wts, zge, goK] at h
  | .seq a b, i, k, h => by
    obtain ⟨c, u, rfl, h2, rfl⟩ := qkj a (i + 1) k (by simpa [Tm.t, T.wts, zge, goK] using h)
    exact ⟨seq c b, u, rfl, h2, by simp only [pos]; omega⟩
  | .hand a b, i, k, h => by
    obtain ⟨c, u, rfl, h2, rfl⟩ := qkj a (i + 1) k (by simpa [Tm.t, T.wts, zge, goK] using h)
    exact ⟨hand c b, u, rfl, h2, by simp only [pos]; omega⟩
  | .going a b, i, k, h => by
    obtain ⟨c, u, rfl, h2, rfl⟩ := qkj a (i + 1) k (by simpa [Tm.t, T.wts, zge, goK] using h)
    exact ⟨going c b, u, rfl, h2, by simp only [pos]; omega⟩
  | .stack a b, i, k, h => by
    obtain ⟨c, u, rfl, h2, rfl⟩ := qkj a (i + 1) k (by simpa [Tm.t, T.wts, zge, goK] using h)
    exact ⟨stack c b, u, rfl, h2, by simp only [pos]; omega⟩
  | .block a, i, k, h => by
    obtain ⟨c, u, rfl, h2, rfl⟩ := qkj a (i + 1) k (by simpa [Tm.t, T.wts, zge, goK] using h)
    exact ⟨block c, u, rfl, h2, by simp only [pos]; omega⟩
  | .par a b, i, k, h => by
    have h' : k ∈ a.t.wts (i + 1) ∨ k ∈ b.t.wts (i + 1 + a.t.size) := by simpa [Tm.t, T.wts, zge, goK] using h
    rcases h' with h' | h'
    · obtain ⟨c, u, rfl, h2, rfl⟩ := qkj a (i + 1) k h'
      exact ⟨parL c b, u, rfl, h2, by simp only [pos]; omega⟩
    · obtain ⟨c, u, rfl, h2, rfl⟩ := qkj b (i + 1 + a.t.size) k h'
      exact ⟨parR a c, u, rfl, h2, by simp only [pos, Tm.size]; omega⟩
theorem qjq {u : Tm} (hu : u.Wt) : ∀ (c : Cx) (i : Nat), i + c.pos ∈ (c.fill u).t.wts i
  | hole, i => by
    rcases hu with ⟨s, rfl⟩ | ⟨a, b, rfl⟩ | rfl | ⟨a, b, rfl⟩ <;> simp [fill, pos, Tm.t, T.wts, zge]
  | seq c b, i => by
    have := qjq hu c (i + 1)
    rw [show i + (seq c b).pos = i + 1 + c.pos by simp only [pos]; omega]
    simpa [fill, Tm.t, T.wts, zge, goK] using this
  | hand c b, i => by
    have := qjq hu c (i + 1)
    rw [show i + (hand c b).pos = i + 1 + c.pos by simp only [pos]; omega]
    simpa [fill, Tm.t, T.wts, zge, goK] using this
  | going c b, i => by
    have := qjq hu c (i + 1)
    rw [show i + (going c b).pos = i + 1 + c.pos by simp only [pos]; omega]
    simpa [fill, Tm.t, T.wts, zge, goK] using this
  | stack c b, i => by
    have := qjq hu c (i + 1)
    rw [show i + (stack c b).pos = i + 1 + c.pos by simp only [pos]; omega]
    simpa [fill, Tm.t, T.wts, zge, goK] using this
  | block c, i => by
    have := qjq hu c (i + 1)
    rw [show i + (block c).pos = i + 1 + c.pos by simp only [pos]; omega]
    simpa [fill, Tm.t, T.wts, zge, goK] using this
  | parL c b, i => by
    have := qjq hu c (i + 1)
    rw [show i + (parL c b).pos = i + 1 + c.pos by simp only [pos]; omega]
    simp [fill, Tm.t, T.wts, zge, goK]
    exact .inl this
  | parR a c, i => by
    have := qjq hu c (i + 1 + a.t.size)
    rw [show i + (parR a c).pos = i + 1 + a.t.size + c.pos by simp only [pos, Tm.size]; omega]
    simp [fill, Tm.t, T.wts, zge, goK]
    exact .inr this
def bsd : Cx → List (List Nd) × Bool
  | hole => ([], false)
  | seq c _ => c.bsd
  | hand c _ => c.bsd
  | going c _ => c.bsd
  | stack c _ => c.bsd
  | parL c b => if c.bsd.2 = true then (c.bsd.1, true) else (c.bsd.1 ++ [b.row], false)
  | parR a c => if c.bsd.2 = true then (c.bsd.1, true) else (c.bsd.1 ++ [a.row], false)
  | block c => (c.bsd.1, true)
theorem ymb (t : T) (i : Nat) : t.path i i = [] := by
  cases t with
  | n0 n => rfl
  | n1 n a => rw [T.zvl, if_pos rfl]
  | n2 n a b => rw [T.zjs, if_pos rfl]
theorem yaa (u : Tm) : ∀ c : Cx, c.pos < (c.fill u).size := fun c => by
  obtain ⟨A, B, h1, h2⟩ := zmn c
  have e1 := congrArg List.length (h2 u)
  have h3 := u.zes
  simp only [List.length_append, Tm.zac] at e1
  omega
theorem zus (u : Tm) : ∀ (c : Cx) (i : Nat), zca ((c.fill u).t.path i (i + c.pos)) = c.bsd
  | hole, i => by
    show zca (u.t.path i (i + 0)) = _
    rw [Nat.add_zero, ymb]; rfl
  | seq c b, i => by
    have ih := zus u c (i + 1)
    have hl := yaa u c
    have e : i + (seq c b).pos = i + 1 + c.pos := by simp only [pos]; omega
    show zca ((T.n2 (nd 5) (c.fill u).t b.t).path i _) = _
    rw [e, T.zjs, if_neg (by omega), if_pos (by unfold Tm.size at hl; omega), zca, ih]
    show (if c.bsd.2 = true then (c.bsd.1, true) else (c.bsd.1, false)) = c.bsd
    split <;> rename_i h <;> exact Prod.ext rfl (by simp [h])
  | hand c b, i => by
    have ih := zus u c (i + 1)
    have hl := yaa u c
    have e : i + (hand c b).pos = i + 1 + c.pos := by simp only [pos]; omega
    show zca ((T.n2 (nd 8) (c.fill u).t b.t).path i _) = _
    rw [e, T.zjs, if_neg (by omega), if_pos (by unfold Tm.size at hl; omega), zca, ih]
    show (if c.bsd.2 = true then (c.bsd.1, true) else (c.bsd.1, false)) = c.bsd
    split <;> rename_i h <;> exact Prod.ext rfl (by simp [h])
  | going c b, i => by
    have ih := zus u c (i + 1)
    have hl := yaa u c
    have e : i + (going c b).pos = i + 1 + c.pos := by simp only [pos]; omega
    show zca ((T.n2 (nd 12) (c.fill u).t b.t).path i _) = _
    rw [e, T.zjs, if_neg (by omega), if_pos (by unfold Tm.size at hl; omega), zca, ih]
    show (if c.bsd.2 = true then (c.bsd.1, true) else (c.bsd.1, false)) = c.bsd
    split <;> rename_i h <;> exact Prod.ext rfl (by simp [h])
  | stack c b, i => by
    have ih := zus u c (i + 1)
    have hl := yaa u c
    have e : i + (stack c b).pos = i + 1 + c.pos := by simp only [pos]; omega
    show zca ((T.n2 (nd 13) (c.fill u).t b.t).path i _) = _
    rw [e, T.zjs, if_neg (by omega), if_pos (by unfold Tm.size at hl; omega), zca, ih]
    show (if c.bsd.2 = true then (c.bsd.1, true) else (c.bsd.1, false)) = c.bsd
    split <;> rename_i h <;> exact Prod.ext rfl (by simp [h])
  | block c, i => by
    have ih := zus u c (i + 1)
    have e : i + (block c).pos = i + 1 + c.pos := by simp only [pos]; omega
    show zca ((T.n1 (nd 9) (c.fill u).t).path i _) = _
    rw [e, T.zvl, if_neg (by omega), zca, ih]
    show (if c.bsd.2 = true then (c.bsd.1, true) else (c.bsd.1, true)) = _
    rw [ite_self]; rfl
  | parL c b, i => by
    have ih := zus u c (i + 1)
    have hl := yaa u c
    have e : i + (parL c b).pos = i + 1 + c.pos := by simp only [pos]; omega
    show zca ((T.n2 (nd 7) (c.fill u).t b.t).path i _) = _
    rw [e, T.zjs, if_neg (by omega), if_pos (by unfold Tm.size at hl; omega), zca, ih]
    rfl
  | parR a c, i => by
    have ih := zus u c (i + 1 + a.t.size)
    have e : i + (parR a c).pos = i + 1 + a.t.size + c.pos := by simp only [pos, Tm.size]; omega
    show zca ((T.n2 (nd 7) a.t (c.fill u).t).path i _) = _
    rw [e, T.zjs, if_neg (by omega), if_neg (by omega), zca, ih]
    rfl
end Cx
namespace Tm
def mdT : Tm → Int → Tm
  | act _, _ => over 1
  | alt a b, how => if how = 2 then a else b
  | pair a b, how => if how = 5 then fin 3 skip else going a b
  | _, how => if how = 5 then over 3 else over 1
end Tm
end Go.Rd
