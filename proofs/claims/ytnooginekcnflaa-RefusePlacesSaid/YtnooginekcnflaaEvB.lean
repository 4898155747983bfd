/- What a plain value of the evaluator says of the model's memory. -/
import Derived.Test.YtnooginekcnflaaEvA
import Derived.Below
import Derived.Laws.AppendOwn
import Derived.Orders
namespace Go.Sv
open Go

inductive All2 {α β : Type} (R : α → β → Prop) : List α → List β → Prop where
  | nil : All2 R [] []
  | cons {a : α} {b : β} {l : List α} {m : List β} : R a b → All2 R l m → All2 R (a :: l) (b :: m)

/-- The cells of a told value: what it reads lies in no block of F. -/
def Cl (F : Nat → Prop) (w : World) : (t : Ty) → t.den → List Value → Prop
  | .bool, b, cs => cs = [.bool b]
  | .int k, n, cs => cs = [.int k n]
  | .str, s, cs => cs = [.string s]
  | .fn, f, cs => cs = [.func (.func f) #[] #[]]
  | .slice _ t, xs, cs => ∃ A c, cs = [.slice A xs.length c] ∧ xs.length ≤ c ∧
      (xs = [] ∨ ∃ a, A = some a ∧ ¬ F a.block ∧ ∀ i x, xs[i]? = some x → ∃ ds, Cl F w t x ds ∧ ∀ j v, ds[j]? = some v → w.cell? (a.add (i * t.sz + j)) = some v)
  | .pair a b, x, cs => ∃ c1 c2, cs = c1 ++ c2 ∧ Cl F w a x.1 c1 ∧ Cl F w b x.2 c2

theorem Ty.sz_pos (t : Ty) : 0 < t.sz := by induction t <;> simp [Ty.sz] <;> omega

theorem Cl.length {F : Nat → Prop} {w : World} : ∀ {t : Ty} {x : t.den} {cs : List Value}, Cl F w t x cs → cs.length = t.sz
  | .bool, _, _, h => by rw [Cl] at h; subst h; rfl
  | .int _, _, _, h => by rw [Cl] at h; subst h; rfl
  | .str, _, _, h => by rw [Cl] at h; subst h; rfl
  | .fn, _, _, h => by rw [Cl] at h; subst h; rfl
  | .slice _ _, _, _, h => by rw [Cl] at h; obtain ⟨_, _, rfl, _⟩ := h; rfl
  | .pair a b, _, _, h => by
    rw [Cl] at h; obtain ⟨c1, c2, rfl, h1, h2⟩ := h
    rw [List.length_append, Cl.length h1, Cl.length h2]; rfl

theorem Cl.one {F : Nat → Prop} {w : World} : ∀ {t : Ty} {x : t.den} {cs : List Value}, Cl F w t x cs → ∀ v ∈ cs, v.oneCell' = true
  | .bool, _, _, h => by rw [Cl] at h; subst h; intro v hv; rw [List.mem_singleton.1 hv]; rfl
  | .int _, _, _, h => by rw [Cl] at h; subst h; intro v hv; rw [List.mem_singleton.1 hv]; rfl
  | .str, _, _, h => by rw [Cl] at h; subst h; intro v hv; rw [List.mem_singleton.1 hv]; rfl
  | .fn, _, _, h => by rw [Cl] at h; subst h; intro v hv; rw [List.mem_singleton.1 hv]; rfl
  | .slice _ _, _, _, h => by rw [Cl] at h; obtain ⟨_, _, rfl, _⟩ := h; intro v hv; rw [List.mem_singleton.1 hv]; rfl
  | .pair a b, _, _, h => by
    rw [Cl] at h; obtain ⟨c1, c2, rfl, h1, h2⟩ := h
    intro v hv
    rcases List.mem_append.1 hv with hv | hv
    · exact Cl.one h1 v hv
    · exact Cl.one h2 v hv

/-- What F leaves alone stays. -/
structure Step (F F' : Nat → Prop) (w w' : World) : Prop where
  keep : ∀ b, ¬ F b → b < w.heap.size → w'.heap[b]? = w.heap[b]?
  sub : ∀ b, F' b → F b ∨ w.heap.size ≤ b

theorem Step.refl (F : Nat → Prop) (w : World) : Step F F w w := ⟨fun _ _ _ => rfl, fun _ h => .inl h⟩

theorem Cl.step {F F' : Nat → Prop} {w w' : World} (S : Step F F' w w') : ∀ {t : Ty} {x : t.den} {cs : List Value}, Cl F w t x cs → Cl F' w' t x cs
  | .bool, _, _, h => by rw [Cl] at h ⊢; exact h
  | .int _, _, _, h => by rw [Cl] at h ⊢; exact h
  | .str, _, _, h => by rw [Cl] at h ⊢; exact h
  | .fn, _, _, h => by rw [Cl] at h ⊢; exact h
  | .slice e t, xs, _, h => by
    rw [Cl] at h ⊢
    obtain ⟨A, c, rfl, hc, h⟩ := h
    refine ⟨A, c, rfl, hc, ?_⟩
    rcases h with h | ⟨a, rfl, hF, h⟩
    · exact .inl h
    · cases hx : xs with
      | nil => exact .inl rfl
      | cons x0 r =>
        rw [← hx]
        have hlt : a.block < w.heap.size := by
          obtain ⟨ds, hd, hc⟩ := h 0 x0 (by rw [hx]; rfl)
          have hl := hd.length
          have hp := Ty.sz_pos t
          have := hc 0 (ds[0]'(by omega)) (by simp)
          exact World.block_lt_of_cell? w (a.add (0 * t.sz + 0)) this |> fun h => by
            have : (a.add (0 * t.sz + 0)).block = a.block := by simp [Addr.add]
            rw [this] at h; exact h
        refine .inr ⟨a, rfl, fun hf => ?_, fun i x hi => ?_⟩
        · rcases S.sub _ hf with h | h
          · exact hF h
          · omega
        · obtain ⟨ds, hd, hcell⟩ := h i x hi
          refine ⟨ds, Cl.step S hd, fun j v hj => ?_⟩
          have hb : (a.add (i * t.sz + j)).block = a.block := by unfold Addr.add; split <;> rfl
          have := hcell j v hj
          rw [← this]
          exact World.cell?_of_block (by rw [hb]; exact S.keep _ hF hlt)
  | .pair a b, _, _, h => by
    rw [Cl] at h ⊢
    obtain ⟨c1, c2, rfl, h1, h2⟩ := h
    exact ⟨c1, c2, rfl, Cl.step S h1, Cl.step S h2⟩

/-- Where the boxes and the frame's own rows lie. -/
structure Fr where
  bx : Nat → Option Nat
  tg : Nat → Option (Nat × Nat)

def Fr.F (A : Fr) (F0 : Nat → Prop) (b : Nat) : Prop := F0 b ∨ (∃ d, A.bx d = some b) ∨ ∃ n l, A.tg n = some (b, l)

/-- A row of the frame's own, in its block. -/
def OwnAt (F : Nat → Prop) (w : World) (e : TypeId) (t : Ty) (xs : List t.den) (g l : Nat) (v : Value) : Prop :=
  l = xs.length ∧ ∃ cap cur, v = .slice (some ⟨g, 0, none⟩) xs.length cap ∧ w.heap[g]? = some (.cells cur e (0, 0)) ∧ xs.length ≤ cap ∧ cap ≤ maxLen ∧ cur.size = cap * t.sz ∧
    ∀ i x, xs[i]? = some x → ∃ ds, Cl F w t x ds ∧ ∀ j u, ds[j]? = some u → cur[i * t.sz + j]? = some u

def At (F : Nat → Prop) (w : World) (t : Ty) (x : t.den) (v : Value) : Prop :=
  ∃ a cs, v = .pointer (some a) ∧ ¬ F a.block ∧ Cl F w t x cs ∧ ∀ j u, cs[j]? = some u → w.cell? (a.add j) = some u

def RCap (F : Nat → Prop) (w : World) (c : Cap) (v : Value) : Prop :=
  match c.ptr with
  | true => At F w c.t c.x v
  | false => Cl F w c.t c.x [v]

def RFn (F : Nat → Prop) (w : World) (f : Nat) (caps : List Cap) (v : Value) : Prop :=
  ∃ vs : List Value, v = .func (.func f) #[] vs.toArray ∧ All2 (RCap F w) caps vs

def RC (F : Nat → Prop) (A : Fr) (w : World) : PC → Value → Prop
  | .bool b, v => v = .bool b
  | .int k n, v => v = .int k n
  | .str s, v => v = .string s
  | .nilS, v => v = .slice none 0 0
  | .slice e t xs .no, v => Cl F w (.slice e t) xs [v]
  | .slice _ _ xs .nil, v => xs = [] ∧ ∃ a, v = .slice a 0 0
  | .slice e t xs .exact, v => Cl F w (.slice e t) xs [v] ∧ ∃ a, v = .slice a xs.length xs.length
  | .slice e t xs (.own n), v => (A.tg n = none ∧ xs = [] ∧ ∃ a, v = .slice a 0 0) ∨ ∃ g l, A.tg n = some (g, l) ∧ OwnAt F w e t xs g l v
  | .box d o, v => ∃ b, A.bx d = some b ∧ v = .pointer (some ⟨b, o, none⟩)
  | .elem t x, v => At F w t x v
  | .elemT u n i o, v => ∃ b l, A.tg n = some (b, l) ∧ 0 ≤ i ∧ i.toNat < l ∧ v = .pointer (some ⟨b, i.toNat * u.sz + o, none⟩)
  | .clo f caps, v => RFn F w f caps v
  | .fnv q, v => RFn F w q.f q.caps v
  | .glob g, v => v = .pointer (some ⟨g, 0, none⟩)
  | .dead, v => v.oneCell' = true

theorem RC.one {F : Nat → Prop} {A : Fr} {w : World} {c : PC} {v : Value} (h : RC F A w c v) : v.oneCell' = true := by
  cases c with
  | slice e t xs g =>
    cases g with
    | no => exact Cl.one h v (List.mem_singleton.2 rfl)
    | nil => obtain ⟨_, a, rfl⟩ := h; rfl
    | exact => exact Cl.one h.1 v (List.mem_singleton.2 rfl)
    | own n =>
      rcases h with ⟨_, _, a, rfl⟩ | ⟨g, l, _, _, cap, cur, rfl, _⟩ <;> rfl
  | elem t x => obtain ⟨a, cs, rfl, _⟩ := h; rfl
  | clo f caps => obtain ⟨vs, rfl, _⟩ := h; rfl
  | fnv q => obtain ⟨vs, rfl, _⟩ := h; rfl
  | box d o => obtain ⟨b, _, rfl⟩ := h; rfl
  | elemT u n i o => obtain ⟨b, l, _, _, _, rfl⟩ := h; rfl
  | dead => exact h
  | _ => simp only [RC] at h; subst h; rfl

abbrev RCs (F : Nat → Prop) (A : Fr) (w : World) (cs : List PC) (vs : List Value) : Prop := All2 (RC F A w) cs vs

def RS (F : Nat → Prop) (A : Fr) (w : World) : SV → Value → Prop
  | .one c, v => RC F A w c v
  | .agg cs, v => ∃ vs : List Value, v = .agg vs.toArray ∧ RCs F A w cs vs

def RP (F : Nat → Prop) (A : Fr) (w : World) : PV → Value → Prop
  | .undef, _ => True
  | .void, v => v = undef
  | .sv s, v => RS F A w s v
  | .tup l, v => ∃ vs : List Value, v = .tuple vs.toArray ∧ All2 (RS F A w) l vs

theorem cells_of_one {v : Value} (h : v.oneCell' = true) : v.cells = #[v] := by cases v <;> first | rfl | cases h

theorem RS.cells {F : Nat → Prop} {A : Fr} {w : World} {s : SV} {v : Value} (h : RS F A w s v) : RCs F A w s.cells v.cells.toList := by
  cases s with
  | one c => rw [cells_of_one (RC.one h)]; exact .cons h .nil
  | agg cs => obtain ⟨vs, rfl, h⟩ := h; simpa [Value.cells, SV.cells] using h

/-- Which names a cell leans on, and that they stay. -/
def Stays (A A' : Fr) (w w' : World) : PC → Prop
  | .slice _ _ _ (.own n) => (A.tg n = none → A'.tg n = none) ∧ ∀ g l, A.tg n = some (g, l) → A'.tg n = some (g, l) ∧ w'.heap[g]? = w.heap[g]?
  | .elemT _ n _ _ => ∀ g l, A.tg n = some (g, l) → A'.tg n = some (g, l)
  | .box d _ => ∀ b, A.bx d = some b → A'.bx d = some b
  | _ => True

theorem At.step {F F' : Nat → Prop} {w w' : World} (S : Step F F' w w') {t : Ty} {x : t.den} {v : Value} (h : At F w t x v) : At F' w' t x v := by
  obtain ⟨a, cs, rfl, hF, hc, hcell⟩ := h
  have hlt : a.block < w.heap.size := by
    have hl := hc.length
    have hp := Ty.sz_pos t
    have := World.block_lt_of_cell? w _ (hcell 0 (cs[0]'(by omega)) (by simp))
    have hb : (a.add 0).block = a.block := by simp [Addr.add]
    rw [hb] at this; exact this
  refine ⟨a, cs, rfl, fun hf => ?_, hc.step S, fun j u hj => ?_⟩
  · rcases S.sub _ hf with h | h
    · exact hF h
    · omega
  · have hb : (a.add j).block = a.block := by unfold Addr.add; split <;> rfl
    rw [← hcell j u hj]
    exact World.cell?_of_block (by rw [hb]; exact S.keep _ hF hlt)

theorem RCap.step {F F' : Nat → Prop} {w w' : World} (S : Step F F' w w') {c : Cap} {v : Value} (h : RCap F w c v) : RCap F' w' c v := by
  unfold RCap at *
  cases hp : c.ptr with
  | true => simp only [hp] at h ⊢; exact At.step S h
  | false => simp only [hp] at h ⊢; exact Cl.step S h

theorem forall2_imp {α β : Type} {R Q : α → β → Prop} {l : List α} {m : List β} (h : All2 R l m) (hi : ∀ a b, a ∈ l → R a b → Q a b) : All2 Q l m := by
  induction h with
  | nil => exact .nil
  | cons h0 _ ih => exact .cons (hi _ _ (List.mem_cons_self ..) h0) (ih fun a b ha => hi a b (List.mem_cons_of_mem _ ha))

theorem RFn.step {F F' : Nat → Prop} {w w' : World} (S : Step F F' w w') {f : Nat} {caps : List Cap} {v : Value} (h : RFn F w f caps v) : RFn F' w' f caps v := by
  obtain ⟨vs, rfl, h⟩ := h
  exact ⟨vs, rfl, forall2_imp h fun a b _ hr => hr.step S⟩

theorem OwnAt.step {F F' : Nat → Prop} {w w' : World} (S : Step F F' w w') {e : TypeId} {t : Ty} {xs : List t.den} {g l : Nat} {v : Value} (hg : w'.heap[g]? = w.heap[g]?) (h : OwnAt F w e t xs g l v) : OwnAt F' w' e t xs g l v := by
  obtain ⟨hl, cap, cur, rfl, hh, h1, h2, h3, h4⟩ := h
  refine ⟨hl, cap, cur, rfl, hg.trans hh, h1, h2, h3, fun i x hi => ?_⟩
  obtain ⟨ds, hd, hc⟩ := h4 i x hi
  exact ⟨ds, hd.step S, hc⟩

theorem RC.step {F F' : Nat → Prop} {A A' : Fr} {w w' : World} (S : Step F F' w w') {c : PC} {v : Value} (hs : Stays A A' w w' c) (h : RC F A w c v) : RC F' A' w' c v := by
  cases c with
  | slice e t xs g =>
    cases g with
    | no => exact Cl.step S h
    | nil => exact h
    | exact => exact ⟨Cl.step S h.1, h.2⟩
    | own n =>
      rcases h with h | ⟨g, l, ht, h⟩
      · exact .inl ⟨hs.1 h.1, h.2⟩
      · exact .inr ⟨g, l, (hs.2 g l ht).1, h.step S (hs.2 g l ht).2⟩
  | elem t x => exact At.step S h
  | clo f caps => exact RFn.step S h
  | fnv q => exact RFn.step S h
  | box d o => obtain ⟨b, hb, rfl⟩ := h; exact ⟨b, hs b hb, rfl⟩
  | elemT u n i o => obtain ⟨b, l, hb, h1, h2, rfl⟩ := h; exact ⟨b, l, hs b l hb, h1, h2, rfl⟩
  | _ => exact h

theorem RCs.step {F F' : Nat → Prop} {A A' : Fr} {w w' : World} (S : Step F F' w w') {cs : List PC} {vs : List Value} (hs : ∀ c ∈ cs, Stays A A' w w' c) (h : RCs F A w cs vs) : RCs F' A' w' cs vs :=
  forall2_imp h fun a _ ha hr => hr.step S (hs a ha)

def SV.all (p : PC → Prop) (s : SV) : Prop := ∀ c ∈ s.cells, p c
def PV.all (p : PC → Prop) : PV → Prop
  | .sv s => s.all p
  | .tup l => ∀ s ∈ l, s.all p
  | _ => True

theorem RS.step {F F' : Nat → Prop} {A A' : Fr} {w w' : World} (S : Step F F' w w') {s : SV} {v : Value} (hs : s.all (Stays A A' w w')) (h : RS F A w s v) : RS F' A' w' s v := by
  cases s with
  | one c => exact RC.step S (hs c (List.mem_singleton.2 rfl)) h
  | agg cs => obtain ⟨vs, rfl, h⟩ := h; exact ⟨vs, rfl, h.step S hs⟩

theorem RP.step {F F' : Nat → Prop} {A A' : Fr} {w w' : World} (S : Step F F' w w') {p : PV} {v : Value} (hs : p.all (Stays A A' w w')) (h : RP F A w p v) : RP F' A' w' p v := by
  cases p with
  | undef => trivial
  | void => exact h
  | sv s => exact RS.step S hs h
  | tup l => obtain ⟨vs, rfl, h⟩ := h; exact ⟨vs, rfl, forall2_imp h fun a _ ha hr => hr.step S (hs a ha)⟩

/-! ### told values as cells -/
theorem RCs.append {F : Nat → Prop} {A : Fr} {w : World} {a b : List PC} {x y : List Value} (h : RCs F A w a x) (k : RCs F A w b y) : RCs F A w (a ++ b) (x ++ y) := by
  induction h with
  | nil => exact k
  | cons h0 _ ih => exact .cons h0 ih

theorem Cl.toPC {F : Nat → Prop} {A : Fr} {w : World} : ∀ {t : Ty} {x : t.den} {cs : List Value}, Cl F w t x cs → RCs F A w (t.toPC x) cs
  | .bool, _, _, h => by rw [Cl] at h; subst h; exact .cons rfl .nil
  | .int _, _, _, h => by rw [Cl] at h; subst h; exact .cons rfl .nil
  | .str, _, _, h => by rw [Cl] at h; subst h; exact .cons rfl .nil
  | .fn, _, _, h => by rw [Cl] at h; subst h; exact .cons ⟨[], rfl, .nil⟩ .nil
  | .slice e t, xs, cs, h => by
    have hl := Cl.length h
    match cs, hl with
    | [v], _ => exact .cons h .nil
  | .pair a b, x, _, h => by
    rw [Cl] at h; obtain ⟨c1, c2, rfl, h1, h2⟩ := h
    exact (Cl.toPC h1).append (Cl.toPC h2)

/-- A cell that is the frame's own only where it is empty, or is nobody's: told as a plain one. -/
def Plain (F : Nat → Prop) (A : Fr) (w : World) : PC → Prop
  | .slice _ _ _ (.own n) => ∀ g l, A.tg n = some (g, l) → ¬ F g ∧ g < w.heap.size
  | _ => True

theorem OwnAt.plain {F : Nat → Prop} {w : World} {e : TypeId} {t : Ty} {xs : List t.den} {g l : Nat} {v : Value} (h : OwnAt F w e t xs g l v) (hF : ¬ F g) : Cl F w (.slice e t) xs [v] := by
  obtain ⟨_, cap, cur, rfl, hh, h1, h2, h3, h4⟩ := h
  rw [Cl]
  refine ⟨_, _, rfl, h1, .inr ⟨_, rfl, hF, fun i x hi => ?_⟩⟩
  obtain ⟨ds, hd, hc⟩ := h4 i x hi
  refine ⟨ds, hd, fun j u hj => ?_⟩
  have hadd : (⟨g, 0, none⟩ : Addr).add (i * t.sz + j) = ⟨g, i * t.sz + j, none⟩ := by unfold Addr.add; split <;> simp_all
  rw [hadd]
  simp only [World.cell?, hh]
  simpa using hc j u hj

theorem RC.slice_plain {F : Nat → Prop} {A : Fr} {w : World} {e : TypeId} {t : Ty} {xs : List t.den} {g : Tag} {v : Value} (hp : Plain F A w (.slice e t xs g)) (h : RC F A w (.slice e t xs g) v) : Cl F w (.slice e t) xs [v] := by
  cases g with
  | no => exact h
  | nil => obtain ⟨rfl, a, rfl⟩ := h; rw [Cl]; exact ⟨a, 0, rfl, Nat.le_refl _, .inl rfl⟩
  | exact => exact h.1
  | own n =>
    rcases h with ⟨_, rfl, a, rfl⟩ | ⟨g, l, ht, h⟩
    · rw [Cl]; exact ⟨a, 0, rfl, Nat.le_refl _, .inl rfl⟩
    · exact h.plain (hp g l ht).1

theorem forall2_take {α β : Type} {R : α → β → Prop} {l : List α} {m : List β} (h : All2 R l m) (n : Nat) : All2 R (l.take n) (m.take n) := by
  induction h generalizing n with
  | nil => simp; exact .nil
  | cons h0 _ ih => cases n with
    | zero => simp; exact .nil
    | succ n => exact .cons h0 (ih n)
theorem forall2_drop {α β : Type} {R : α → β → Prop} {l : List α} {m : List β} (h : All2 R l m) (n : Nat) : All2 R (l.drop n) (m.drop n) := by
  induction h generalizing n with
  | nil => simp; exact .nil
  | cons h0 ht ih => cases n with
    | zero => exact .cons h0 ht
    | succ n => exact ih n

theorem boolOf_eq {cs : List PC} {b : Bool} (h : boolOf cs = some b) : cs = [.bool b] := by
  unfold boolOf at h
  split at h
  · cases h; rfl
  · cases h
theorem intOf_eq {k : IntKind} {cs : List PC} {n : Int} (h : intOf k cs = some n) : cs = [.int k n] := by
  unfold intOf at h
  split at h
  · split at h
    · rename_i hk; cases h; rw [hk]
    · cases h
  · cases h
theorem strOf_eq {cs : List PC} {b : ByteArray} (h : strOf cs = some b) : cs = [.str b] := by
  unfold strOf at h
  split at h
  · cases h; rfl
  · cases h
theorem fnOf_eq {cs : List PC} {b : Nat} (h : fnOf cs = some b) : cs = [.clo b []] := by
  unfold fnOf at h
  split at h
  · cases h; rfl
  · cases h
theorem rowOf_eq {e : TypeId} {t : Ty} {cs : List PC} {xs : List t.den} (h : rowOf e t cs = some xs) : (cs = [.nilS] ∧ xs = []) ∨ ∃ g, cs = [.slice e t xs g] := by
  unfold rowOf at h
  split at h
  · cases h; exact .inl ⟨rfl, rfl⟩
  · split at h
    · rename_i hk
      obtain ⟨rfl, rfl⟩ := hk
      cases h
      exact .inr ⟨_, rfl⟩
    · cases h
  · cases h

theorem RCs.ofPC {F : Nat → Prop} {A : Fr} {w : World} : ∀ {t : Ty} {x : t.den} {cs : List PC} {vs : List Value}, t.ofPC cs = some x → (∀ c ∈ cs, Plain F A w c) → RCs F A w cs vs → Cl F w t x vs
  | .bool, x, cs, vs, ho, hp, h => by
    obtain rfl := boolOf_eq ho
    cases h with | cons h0 ht => cases ht; cases h0; rw [Cl]
  | .int k, x, cs, vs, ho, hp, h => by
    obtain rfl := intOf_eq ho
    cases h with | cons h0 ht => cases ht; cases h0; rw [Cl]
  | .str, x, cs, vs, ho, hp, h => by
    obtain rfl := strOf_eq ho
    cases h with | cons h0 ht => cases ht; cases h0; rw [Cl]
  | .fn, x, cs, vs, ho, hp, h => by
    obtain rfl := fnOf_eq ho
    cases h with
    | cons h0 ht =>
      cases ht
      obtain ⟨us, rfl, hu⟩ := h0
      cases hu
      rw [Cl]
  | .slice e t, xs, cs, vs, ho, hp, h => by
    rcases rowOf_eq ho with ⟨rfl, rfl⟩ | ⟨g, rfl⟩
    · cases h with | cons h0 ht => cases ht; cases h0; rw [Cl]; exact ⟨none, 0, rfl, Nat.le_refl _, .inl rfl⟩
    · cases h with | cons h0 ht => cases ht; exact RC.slice_plain (hp _ (List.mem_singleton.2 rfl)) h0
  | .pair a b, x, cs, vs, ho, hp, h => by
    unfold Ty.ofPC at ho
    split at ho
    · rename_i x1 y1 h1 h2
      cases ho
      rw [Cl]
      have c1 := RCs.ofPC h1 (fun c hc => hp c (List.mem_of_mem_take hc)) (forall2_take h a.sz)
      have c2 := RCs.ofPC h2 (fun c hc => hp c (List.mem_of_mem_drop hc)) (forall2_drop h a.sz)
      exact ⟨vs.take a.sz, vs.drop a.sz, (List.take_append_drop _ _).symm, c1, c2⟩
    · cases ho

end Go.Sv
