/- The relation between the evaluator's state and the model's frame and world, and how it goes on. -/
import Derived.Test.YtnooginekcnflaaEvB
namespace Go.Sv
open Go

structure Kept (G : Nat → Prop) (w w' : World) : Prop where
  os : w'.os = w.os
  tape : w'.tape = w.tape
  output : w'.output = w.output
  size : w.heap.size ≤ w'.heap.size
  block : ∀ k, k < w.heap.size → ¬ G k → w'.heap[k]? = w.heap[k]?

theorem Kept.refl (G : Nat → Prop) (w : World) : Kept G w w := ⟨rfl, rfl, rfl, Nat.le_refl _, fun _ _ _ => rfl⟩
theorem Kept.trans {G G' : Nat → Prop} {a b c : World} (h : Kept G a b) (k : Kept G' b c) (hG : ∀ x, G' x → G x ∨ a.heap.size ≤ x) : Kept G a c :=
  ⟨k.os.trans h.os, k.tape.trans h.tape, k.output.trans h.output, Nat.le_trans h.size k.size, fun i hi hg =>
    (k.block i (Nat.lt_of_lt_of_le hi h.size) fun hx => by rcases hG i hx with h1 | h1; exact hg h1; omega).trans (h.block i hi hg)⟩

def GlobOK (E : Env) (F : Nat → Prop) (w : World) : Prop :=
  ∀ g e u n, E.glob g = some (e, u, n) → (E.globV g u).length = n ∧ Cl F w (.slice e u) (E.globV g u) [.slice (some ⟨g, 0, none⟩) n n]
theorem GlobOK.step {E : Env} {F F' : Nat → Prop} {w w' : World} (h : GlobOK E F w) (S : Step F F' w w') : GlobOK E F' w' :=
  fun g e u n hg => ⟨(h g e u n hg).1, Cl.step S (h g e u n hg).2⟩

structure Ctx where
  P : Program
  E : Env
  W : World
  G : Nat → Prop
  F0 : Nat → Prop
  n : Nat

def Ctx.Mine (X : Ctx) (b : Nat) : Prop := X.W.heap.size ≤ b ∨ X.G b

structure Good (X : Ctx) (A : Fr) (w : World) : Prop where
  bxm : ∀ d b, A.bx d = some b → X.Mine b ∧ b < w.heap.size
  tgm : ∀ n b l, A.tg n = some (b, l) → X.Mine b ∧ b < w.heap.size
  bxi : ∀ d d' b, A.bx d = some b → A.bx d' = some b → d = d'
  tgi : ∀ n n' b l l', A.tg n = some (b, l) → A.tg n' = some (b, l') → n = n'
  bt : ∀ d n b l, A.bx d = some b → A.tg n = some (b, l) → False
  f0 : ∀ b, X.F0 b → b < X.W.heap.size ∧ ¬ X.G b

theorem Good.f0m {X : Ctx} {A : Fr} {w : World} (h : Good X A w) {b : Nat} (hm : X.Mine b) : ¬ X.F0 b := fun hf => by
  obtain ⟨h1, h2⟩ := h.f0 b hf
  rcases hm with h3 | h3
  · omega
  · exact h2 h3

abbrev Ctx.F (X : Ctx) (A : Fr) : Nat → Prop := A.F X.F0

structure Inv (X : Ctx) (A : Fr) (σ : St) (tm : Array Value) (w : World) : Prop where
  sz : tm.size = X.n
  kept : Kept X.G X.W w
  glob : GlobOK X.E (X.F A) w
  slot : ∀ i, RP (X.F A) A w (σ.get i) (tm.getD i undef)
  box : ∀ d tid cs, getB σ.b d = some (tid, cs) → ∃ b vs, A.bx d = some b ∧ w.heap[b]? = some (.cells vs tid (0, 0)) ∧ RCs (X.F A) A w cs vs.toList
  good : Good X A w
  ent : ∀ p ∈ σ.s, ∃ v, RP (X.F A) A w p.2 v

/-! ### slots -/
theorem getS_map (f : PC → PC) (l : List (Nat × PV)) (i : Nat) : getS (l.map fun p => (p.1, p.2.map f)) i = (getS l i).map f := by
  induction l with
  | nil => rfl
  | cons p l ih =>
    obtain ⟨j, v⟩ := p
    simp only [List.map_cons, getS, ih]
    cases Nat.beq j i <;> rfl
theorem getB_map (f : PC → PC) (l : List (Nat × (TypeId × List PC))) (i : Nat) :
    getB (l.map fun p => (p.1, (p.2.1, p.2.2.map f))) i = (getB l i).map fun q => (q.1, q.2.map f) := by
  induction l with
  | nil => rfl
  | cons p l ih =>
    obtain ⟨j, v⟩ := p
    simp only [List.map_cons, getB, ih]
    cases Nat.beq j i <;> rfl
theorem St.get_map (σ : St) (f : PC → PC) (i : Nat) : (σ.map f).get i = (σ.get i).map f := getS_map f σ.s i
theorem getB_delB (l : List (Nat × (TypeId × List PC))) (d i : Nat) : getB (delB l d) i = if i = d then none else getB l i := by
  induction l with
  | nil => simp [delB, getB]
  | cons p l ih =>
    obtain ⟨j, v⟩ := p
    simp only [delB, getB]
    by_cases h : j = d
    · have : Nat.beq j d = true := by rw [h]; exact Nat.beq_refl d
      rw [this]; simp only [cond_true, ih]
      by_cases hi : i = d
      · simp [hi]
      · have : Nat.beq j i = false := by cases hb : Nat.beq j i; rfl; exact absurd ((Nat.eq_of_beq_eq_true hb).symm.trans h) hi |> fun h => h
        simp [hi, this]
    · have : Nat.beq j d = false := by cases hb : Nat.beq j d; rfl; exact absurd (Nat.eq_of_beq_eq_true hb) h
      rw [this]; simp only [cond_false, getB, ih]
      cases hb : Nat.beq j i with
      | true =>
        have := Nat.eq_of_beq_eq_true hb
        subst this
        simp [h]
      | false => simp

theorem getD_put {tm : Array Value} {d : Nat} (v : Value) (hd : d < tm.size) (i : Nat) : (tm.setIfInBounds d v).getD i undef = if i = d then v else tm.getD i undef := by
  simp only [Array.getD_eq_getD_getElem?, Array.getElem?_setIfInBounds]
  by_cases h : d = i
  · subst h; simp [hd]
  · have : ¬ i = d := fun e => h e.symm
    simp [h, this]

theorem St.get_put (σ : St) (d : Nat) (v : PV) (i : Nat) : (σ.put (some d) v).get i = if i = d then v else σ.get i := by
  simp only [St.put, St.get, getS]
  by_cases h : i = d
  · subst h; rw [show Nat.beq i i = true from Nat.beq_refl i]; simp
  · have : Nat.beq d i = false := by cases hb : Nat.beq d i; rfl; exact absurd (Nat.eq_of_beq_eq_true hb).symm h
    simp [this, h]

theorem Inv.put {X : Ctx} {A : Fr} {σ : St} {a : Act} {w : World} (h : Inv X A σ a.tmps w) {dst : Option Nat} (hd : ∀ d, dst = some d → d < X.n) {p : PV} {v : Value} (hp : dst ≠ none → RP (X.F A) A w p v) :
    Inv X A (σ.put dst p) (a.put dst v).tmps w := by
  cases dst with
  | none => exact h
  | some d =>
    have hlt : d < a.tmps.size := by rw [h.sz]; exact hd d rfl
    refine ⟨by simp [Act.put, h.sz], h.kept, h.glob, fun i => ?_, h.box, h.good, fun q hq => ?_⟩
    case refine_2 =>
      rcases List.mem_cons.1 hq with rfl | hq
      · exact ⟨v, hp (by simp)⟩
      · exact h.ent q hq
    rw [St.get_put]
    show RP _ _ _ _ ((a.tmps.setIfInBounds d v).getD i undef)
    rw [getD_put v hlt]
    by_cases hi : i = d
    · simp only [hi, if_true]; exact hp (by simp)
    · simp only [hi, if_false]; exact h.slot i

/-! ### maps of cells -/
theorem RS.map {F F' : Nat → Prop} {A A' : Fr} {w w' : World} {f : PC → PC} (hf : ∀ c v, RC F A w c v → RC F' A' w' (f c) v) {s : SV} {v : Value} (h : RS F A w s v) : RS F' A' w' (s.map f) v := by
  cases s with
  | one c => exact hf c v h
  | agg cs =>
    obtain ⟨vs, rfl, h⟩ := h
    refine ⟨vs, rfl, ?_⟩
    show All2 _ (cs.map f) vs
    induction h with
    | nil => exact .nil
    | cons h0 _ ih => exact .cons (hf _ _ h0) ih
theorem RCs.map {F F' : Nat → Prop} {A A' : Fr} {w w' : World} {f : PC → PC} (hf : ∀ c v, RC F A w c v → RC F' A' w' (f c) v) {cs : List PC} {vs : List Value} (h : RCs F A w cs vs) : RCs F' A' w' (cs.map f) vs := by
  induction h with
  | nil => exact .nil
  | cons h0 _ ih => exact .cons (hf _ _ h0) ih
theorem RP.map {F F' : Nat → Prop} {A A' : Fr} {w w' : World} {f : PC → PC} (hf : ∀ c v, RC F A w c v → RC F' A' w' (f c) v) {p : PV} {v : Value} (h : RP F A w p v) : RP F' A' w' (p.map f) v := by
  cases p with
  | undef => trivial
  | void => exact h
  | sv s => exact RS.map hf h
  | tup l =>
    obtain ⟨vs, rfl, h⟩ := h
    refine ⟨vs, rfl, ?_⟩
    show All2 _ (l.map _) vs
    induction h with
    | nil => exact .nil
    | cons h0 _ ih => exact .cons (RS.map hf h0) ih

theorem Inv.map {X : Ctx} {A A' : Fr} {σ : St} {tm : Array Value} {w w' : World} {f : PC → PC} (h : Inv X A σ tm w)
    (hf : ∀ c v, RC (X.F A) A w c v → RC (X.F A') A' w' (f c) v)
    (hk : Kept X.G X.W w') (S : Step (X.F A) (X.F A') w w') (hg : Good X A' w')
    (hb : ∀ d tid cs b vs, getB σ.b d = some (tid, cs) → A.bx d = some b → w.heap[b]? = some (.cells vs tid (0, 0)) → A'.bx d = some b ∧ w'.heap[b]? = some (.cells vs tid (0, 0))) :
    Inv X A' (σ.map f) tm w' := by
  refine ⟨h.sz, hk, h.glob.step S, fun i => ?_, fun d tid cs hd => ?_, hg, fun q hq => ?_⟩
  case refine_3 =>
    obtain ⟨q', hq', rfl⟩ := List.mem_map.1 hq
    obtain ⟨v, hv⟩ := h.ent q' hq'
    exact ⟨v, RP.map hf hv⟩
  · rw [St.get_map]; exact RP.map hf (h.slot i)
  · simp only [St.map, getB_map] at hd
    cases hq : getB σ.b d with
    | none => simp [hq] at hd
    | some q =>
      obtain ⟨tid', cs'⟩ := q
      simp only [hq, Option.map_some, Option.some.injEq, Prod.mk.injEq] at hd
      obtain ⟨rfl, rfl⟩ := hd
      obtain ⟨b, vs, h1, h2, h3⟩ := h.box d tid' cs' hq
      obtain ⟨h4, h5⟩ := hb d tid' cs' b vs hq h1 h2
      exact ⟨b, vs, h4, h5, RCs.map hf h3⟩

/-! ### tags that go -/
def Fr.drop (A : Fr) (l : List Nat) : Fr := { A with tg := fun n => if mem l n then none else A.tg n }

theorem mem_iff {l : List Nat} {n : Nat} : mem l n = true ↔ n ∈ l := by
  unfold mem
  rw [List.any_eq_true]
  constructor
  · rintro ⟨x, hx, h⟩
    rw [Nat.eq_of_beq_eq_true h]; exact hx
  · intro h; exact ⟨n, h, Nat.beq_refl n⟩

theorem Fr.drop_F {A : Fr} {l : List Nat} {F0 : Nat → Prop} {b : Nat} (h : (A.drop l).F F0 b) : A.F F0 b := by
  rcases h with h | h | ⟨n, k, h⟩
  · exact .inl h
  · exact .inr (.inl h)
  · refine .inr (.inr ⟨n, k, ?_⟩)
    simp only [Fr.drop] at h
    split at h
    · cases h
    · exact h

theorem Good.drop {X : Ctx} {A : Fr} {w : World} (h : Good X A w) (l : List Nat) : Good X (A.drop l) w := by
  have key : ∀ n b k, (A.drop l).tg n = some (b, k) → A.tg n = some (b, k) := fun n b k hn => by
    simp only [Fr.drop] at hn
    split at hn
    · cases hn
    · exact hn
  exact ⟨h.bxm, fun n b k hn => h.tgm n b k (key n b k hn), h.bxi, fun n n' b k k' h1 h2 => h.tgi n n' b k k' (key _ _ _ h1) (key _ _ _ h2),
    fun d n b k h1 h2 => h.bt d n b k h1 (key _ _ _ h2), h.f0⟩

theorem Step.drop (A : Fr) (l : List Nat) (F0 : Nat → Prop) (w : World) : Step (A.F F0) ((A.drop l).F F0) w w :=
  ⟨fun _ _ _ => rfl, fun _ h => .inl (Fr.drop_F h)⟩

/-- What was the frame's own, and is dropped, may be read by anybody. -/
theorem Good.notF {X : Ctx} {A : Fr} {w : World} (h : Good X A w) {l : List Nat} {n b k : Nat} (hn : A.tg n = some (b, k)) (hl : n ∈ l) : ¬ X.F (A.drop l) b := by
  rintro (hf | ⟨d, hd⟩ | ⟨n', k', hn'⟩)
  · exact h.f0m (h.tgm n b k hn).1 hf
  · exact h.bt d n b k hd hn
  · simp only [Fr.drop] at hn'
    split at hn'
    · cases hn'
    · rename_i hm
      have := h.tgi n n' b k k' hn hn'
      subst this
      exact hm (mem_iff.2 hl)

theorem Inv.release {X : Ctx} {A : Fr} {σ : St} {tm : Array Value} {w : World} (h : Inv X A σ tm w) (l : List Nat) : ∃ A', Inv X A' (σ.release l) tm w ∧ (A' = A ∨ A' = A.drop l) ∧ ((l = [] ∧ A' = A) ∨ A' = A.drop l) := by
  cases l with
  | nil => exact ⟨A, h, .inl rfl, .inl ⟨rfl, rfl⟩⟩
  | cons x l =>
    refine ⟨A.drop (x :: l), ?_, .inr rfl, .inr rfl⟩
    refine h.map (fun c v hc => ?_) h.kept (Step.drop _ _ _ _) (h.good.drop _) (fun d tid cs b vs _ hb hw => ⟨hb, hw⟩)
    have S := Step.drop A (x :: l) X.F0 w
    cases c with
    | slice e t xs g =>
      cases g with
      | no => exact RC.step S trivial hc
      | nil => exact RC.step S trivial hc
      | exact => exact RC.step S trivial hc
      | own n =>
        unfold PC.mapTag
        by_cases hm : mem (x :: l) n = true
        · simp only [hm, cond_true]
          rcases hc with ⟨_, rfl, a, rfl⟩ | ⟨g, k, hg, ho⟩
          · show Cl _ _ _ _ _
            rw [Cl]; exact ⟨a, 0, rfl, Nat.le_refl _, .inl rfl⟩
          · exact (ho.step S rfl).plain (h.good.notF hg (mem_iff.1 hm))
        · have hm' : mem (x :: l) n = false := by simpa using hm
          simp only [hm', cond_false]
          exact RC.step S ⟨fun hn => by simpa [Fr.drop, hm'] using hn, fun g k hg => ⟨by simpa [Fr.drop, hm'] using hg, rfl⟩⟩ hc
    | elemT u n i o =>
      unfold PC.mapTag
      by_cases hm : mem (x :: l) n = true
      · simp only [hm, cond_true]; exact RC.one hc
      · have hm' : mem (x :: l) n = false := by simpa using hm
        simp only [hm', cond_false]
        exact RC.step S (fun g k hg => by simpa [Fr.drop, hm'] using hg) hc
    | box d o => exact RC.step S (fun _ h => h) hc
    | _ => exact RC.step S trivial hc

theorem Inv.kill {X : Ctx} {A : Fr} {σ : St} {tm : Array Value} {w : World} (h : Inv X A σ tm w) (l : List Nat) : ∃ A', Inv X A' (σ.kill l) tm w ∧ ((l = [] ∧ A' = A) ∨ A' = A.drop l) := by
  cases l with
  | nil => exact ⟨A, h, .inl ⟨rfl, rfl⟩⟩
  | cons x l =>
    refine ⟨A.drop (x :: l), ?_, .inr rfl⟩
    refine h.map (fun c v hc => ?_) h.kept (Step.drop _ _ _ _) (h.good.drop _) (fun d tid cs b vs _ hb hw => ⟨hb, hw⟩)
    have S := Step.drop A (x :: l) X.F0 w
    cases c with
    | slice e t xs g =>
      cases g with
      | no => exact RC.step S trivial hc
      | nil => exact RC.step S trivial hc
      | exact => exact RC.step S trivial hc
      | own n =>
        unfold PC.mapTag
        by_cases hm : mem (x :: l) n = true
        · simp only [hm, cond_true]; exact RC.one hc
        · have hm' : mem (x :: l) n = false := by simpa using hm
          simp only [hm', cond_false]
          exact RC.step S ⟨fun hn => by simpa [Fr.drop, hm'] using hn, fun g k hg => ⟨by simpa [Fr.drop, hm'] using hg, rfl⟩⟩ hc
    | elemT u n i o =>
      unfold PC.mapTag
      by_cases hm : mem (x :: l) n = true
      · simp only [hm, cond_true]; exact RC.one hc
      · have hm' : mem (x :: l) n = false := by simpa using hm
        simp only [hm', cond_false]
        exact RC.step S (fun g k hg => by simpa [Fr.drop, hm'] using hg) hc
    | box d o => exact RC.step S (fun _ h => h) hc
    | _ => exact RC.step S trivial hc

/-! ### the world goes on -/
structure Ext (A A' : Fr) (w w' : World) : Prop where
  bx : ∀ d b, A.bx d = some b → A'.bx d = some b ∧ w'.heap[b]? = w.heap[b]?
  tg : ∀ n g l, A.tg n = some (g, l) → A'.tg n = some (g, l) ∧ w'.heap[g]? = w.heap[g]?
  tn : ∀ n, A.tg n = none → A'.tg n = none

theorem Ext.stays {A A' : Fr} {w w' : World} (h : Ext A A' w w') (c : PC) : Stays A A' w w' c := by
  cases c with
  | slice e t xs g => cases g with
    | own n => exact ⟨h.tn n, fun g l hg => h.tg n g l hg⟩
    | _ => trivial
  | elemT u n i o => exact fun g l hg => (h.tg n g l hg).1
  | box d o => exact fun b hb => (h.bx d b hb).1
  | _ => trivial

theorem Ext.refl (A : Fr) (w : World) : Ext A A w w := ⟨fun _ _ h => ⟨h, rfl⟩, fun _ _ _ h => ⟨h, rfl⟩, fun _ h => h⟩

theorem Inv.adv {X : Ctx} {A A' : Fr} {σ : St} {tm : Array Value} {w w' : World} (h : Inv X A σ tm w) (S : Step (X.F A) (X.F A') w w') (he : Ext A A' w w')
    (hk : Kept X.G X.W w') (hg : Good X A' w') : Inv X A' σ tm w' :=
  ⟨h.sz, hk, h.glob.step S, fun i => RP.step S (by
      cases hq : σ.get i with
      | sv s => exact fun c _ => he.stays c
      | tup l => exact fun s _ c _ => he.stays c
      | _ => trivial) (h.slot i),
    fun d tid cs hd => by
      obtain ⟨b, vs, h1, h2, h3⟩ := h.box d tid cs hd
      exact ⟨b, vs, (he.bx d b h1).1, (he.bx d b h1).2.trans h2, h3.step S fun c _ => he.stays c⟩, hg,
    fun q hq => by
      obtain ⟨v, hv⟩ := h.ent q hq
      refine ⟨v, RP.step S ?_ hv⟩
      cases q.2 with
      | sv s => exact fun c _ => he.stays c
      | tup l => exact fun s _ c _ => he.stays c
      | _ => trivial⟩

theorem heap_push_lt (w : World) (o : Obj) (k : Nat) (h : k < w.heap.size) : (w.alloc o).heap[k]? = w.heap[k]? := by
  show (w.heap.push o)[k]? = _
  rw [Array.getElem?_push, if_neg (by omega)]
theorem heap_push_eq (w : World) (o : Obj) : (w.alloc o).heap[w.heap.size]? = some o := by
  show (w.heap.push o)[w.heap.size]? = _
  rw [Array.getElem?_push, if_pos rfl]

theorem Kept.alloc {G : Nat → Prop} {a w : World} (h : Kept G a w) (o : Obj) : Kept G a (w.alloc o) :=
  ⟨h.os, h.tape, h.output, by rw [World.size_alloc]; exact Nat.le_succ_of_le h.size, fun k hk hg => (heap_push_lt w o k (Nat.lt_of_lt_of_le hk h.size)).trans (h.block k hk hg)⟩
theorem Kept.drew {G : Nat → Prop} {a w : World} (h : Kept G a w) : Kept G a w.drew := ⟨h.os, h.tape, h.output, h.size, h.block⟩

/-- A block that nobody leans on. -/
theorem Inv.alloc {X : Ctx} {A : Fr} {σ : St} {tm : Array Value} {w : World} (h : Inv X A σ tm w) (o : Obj) : Inv X A σ tm (w.alloc o) := by
  have hlt : ∀ b, X.F A b → b < w.heap.size ∨ X.F0 b := fun b hb => by
    rcases hb with hb | ⟨d, hb⟩ | ⟨n, l, hb⟩
    · exact .inr hb
    · exact .inl (h.good.bxm d b hb).2
    · exact .inl (h.good.tgm n b l hb).2
  refine h.adv ⟨fun b _ hb => heap_push_lt w o b hb, fun b hb => .inl hb⟩ ⟨fun d b hb => ⟨hb, heap_push_lt w o b (h.good.bxm d b hb).2⟩, fun n g l hg => ⟨hg, heap_push_lt w o g (h.good.tgm n g l hg).2⟩, fun _ h => h⟩ (h.kept.alloc o) ?_
  refine ⟨fun d b hb => ?_, fun n b l hb => ?_, h.good.bxi, h.good.tgi, h.good.bt, h.good.f0⟩
  · have := h.good.bxm d b hb; exact ⟨this.1, by rw [World.size_alloc]; omega⟩
  · have := h.good.tgm n b l hb; exact ⟨this.1, by rw [World.size_alloc]; omega⟩

theorem Inv.drew {X : Ctx} {A : Fr} {σ : St} {tm : Array Value} {w : World} (h : Inv X A σ tm w) : Inv X A σ tm w.drew :=
  h.adv ⟨fun _ _ _ => rfl, fun _ hb => .inl hb⟩ ⟨fun _ _ hb => ⟨hb, rfl⟩, fun _ _ _ hg => ⟨hg, rfl⟩, fun _ h => h⟩ h.kept.drew ⟨h.good.bxm, h.good.tgm, h.good.bxi, h.good.tgi, h.good.bt, h.good.f0⟩

def Fr.setBx (A : Fr) (d : Nat) (b : Option Nat) : Fr := { A with bx := fun i => if i = d then b else A.bx i }
def Fr.setTg (A : Fr) (n : Nat) (b : Option (Nat × Nat)) : Fr := { A with tg := fun i => if i = n then b else A.tg i }

/-- The box of a name is forgotten. -/
theorem Inv.unbox {X : Ctx} {A : Fr} {σ : St} {tm : Array Value} {w : World} (h : Inv X A σ tm w) (d : Nat) :
    Inv X (A.setBx d none) { s := (σ.map (PC.unbox d)).s, b := delB (σ.map (PC.unbox d)).b d } tm w ∧
    ∀ c v, RC (X.F A) A w c v → RC (X.F (A.setBx d none)) (A.setBx d none) w (PC.unbox d c) v := by
  have hF : ∀ b, X.F (A.setBx d none) b → X.F A b := fun b hb => by
    rcases hb with hb | ⟨i, hb⟩ | hb
    · exact .inl hb
    · simp only [Fr.setBx] at hb
      split at hb
      · cases hb
      · exact .inr (.inl ⟨i, hb⟩)
    · exact .inr (.inr hb)
  have S : Step (X.F A) (X.F (A.setBx d none)) w w := ⟨fun _ _ _ => rfl, fun b hb => .inl (hF b hb)⟩
  have hc : ∀ c v, RC (X.F A) A w c v → RC (X.F (A.setBx d none)) (A.setBx d none) w (PC.unbox d c) v := fun c v hc => by
    cases c with
    | slice e t xs g => cases g with
      | own n => exact RC.step S ⟨fun h => h, fun g k hg => ⟨hg, rfl⟩⟩ hc
      | _ => exact RC.step S trivial hc
    | elemT u n i o => exact RC.step S (fun g k hg => hg) hc
    | box d' o =>
      show RC _ _ _ (bif Nat.beq d' d then .dead else .box d' o) v
      cases hb : Nat.beq d' d with
      | true => exact RC.one hc
      | false =>
        show RC _ _ _ (.box d' o) v
        have hne : d' ≠ d := fun e => by rw [e, Nat.beq_refl] at hb; cases hb
        exact RC.step S (fun b hb => by simpa [Fr.setBx, hne] using hb) hc
    | _ => exact RC.step S trivial hc
  refine ⟨⟨h.sz, h.kept, h.glob.step S, fun i => ?_, fun d' tid cs hd => ?_, ?_, fun q hq => ?_⟩, hc⟩
  case refine_4 =>
    obtain ⟨q', hq', rfl⟩ := List.mem_map.1 hq
    obtain ⟨v, hv⟩ := h.ent q' hq'
    exact ⟨v, RP.map hc hv⟩
  · show RP _ _ _ (St.get (σ.map (PC.unbox d)) i) _
    rw [St.get_map]; exact RP.map hc (h.slot i)
  · rw [getB_delB] at hd
    split at hd
    · cases hd
    · rename_i hne
      simp only [St.map, getB_map] at hd
      cases hq : getB σ.b d' with
      | none => simp [hq] at hd
      | some q =>
        obtain ⟨tid', cs'⟩ := q
        simp only [hq, Option.map_some, Option.some.injEq, Prod.mk.injEq] at hd
        obtain ⟨rfl, rfl⟩ := hd
        obtain ⟨b, vs, h1, h2, h3⟩ := h.box d' tid' cs' hq
        exact ⟨b, vs, by simpa [Fr.setBx, hne] using h1, h2, RCs.map hc h3⟩
  · have key : ∀ i b, (A.setBx d none).bx i = some b → A.bx i = some b := fun i b hb => by
      simp only [Fr.setBx] at hb
      split at hb
      · cases hb
      · exact hb
    exact ⟨fun i b hb => h.good.bxm i b (key i b hb), h.good.tgm, fun i j b h1 h2 => h.good.bxi i j b (key _ _ h1) (key _ _ h2), h.good.tgi, fun i n b l h1 h2 => h.good.bt i n b l (key _ _ h1) h2, h.good.f0⟩

/-- A block is made for a box. -/
theorem Inv.newBox {X : Ctx} {A : Fr} {σ : St} {a : Act} {w : World} (h : Inv X A σ a.tmps w) {d : Nat} (hd : d < X.n) (tid : TypeId) {cs : List PC} {vs : Array Value} (hc : RCs (X.F A) A w cs vs.toList) :
    ∃ A', Inv X A' (σ.newBox d tid cs) (a.put (some d) (.pointer (some ⟨w.heap.size, 0, none⟩))).tmps (w.alloc (.cells vs tid)) := by
  obtain ⟨h1, hmap⟩ := h.unbox d
  have h2 := h1.alloc (.cells vs tid)
  refine ⟨A.setBx d (some w.heap.size), ?_⟩
  have hFeq : ∀ b, X.F (A.setBx d (some w.heap.size)) b → X.F (A.setBx d none) b ∨ b = w.heap.size := fun b hb => by
    rcases hb with hb | ⟨i, hb⟩ | hb
    · exact .inl (.inl hb)
    · simp only [Fr.setBx] at hb
      split at hb
      · cases hb; exact .inr rfl
      · rename_i hne
        exact .inl (.inr (.inl ⟨i, by simpa [Fr.setBx, hne] using hb⟩))
    · exact .inl (.inr (.inr hb))
  have S : Step (X.F (A.setBx d none)) (X.F (A.setBx d (some w.heap.size))) w (w.alloc (.cells vs tid)) :=
    ⟨fun b _ hb => heap_push_lt w _ b hb, fun b hb => (hFeq b hb).imp id fun e => by omega⟩
  have he : Ext (A.setBx d none) (A.setBx d (some w.heap.size)) w (w.alloc (.cells vs tid)) := by
    refine ⟨fun i b hb => ?_, fun n g l hg => ⟨hg, heap_push_lt w _ g (h.good.tgm n g l hg).2⟩, fun _ h => h⟩
    simp only [Fr.setBx] at hb
    split at hb
    · cases hb
    · rename_i hne
      exact ⟨by simpa [Fr.setBx, hne] using hb, heap_push_lt w _ b (h.good.bxm i b hb).2⟩
  have hsz : w.heap.size < (w.alloc (.cells vs tid)).heap.size := by rw [World.size_alloc]; omega
  have hg : Good X (A.setBx d (some w.heap.size)) (w.alloc (.cells vs tid)) := by
    have key : ∀ i b, (A.setBx d (some w.heap.size)).bx i = some b → (i = d ∧ b = w.heap.size) ∨ (i ≠ d ∧ A.bx i = some b) := fun i b hb => by
      simp only [Fr.setBx] at hb
      split at hb
      · cases hb; exact .inl ⟨‹_›, rfl⟩
      · exact .inr ⟨‹_›, hb⟩
    refine ⟨fun i b hb => ?_, fun n b l hb => ?_, fun i j b h1 h2 => ?_, h.good.tgi, fun i n b l h1 h2 => ?_, h.good.f0⟩
    · rcases key i b hb with ⟨_, rfl⟩ | ⟨_, hb⟩
      · exact ⟨.inl h.kept.size, hsz⟩
      · have := h.good.bxm i b hb; exact ⟨this.1, by omega⟩
    · have := h.good.tgm n b l hb; exact ⟨this.1, by omega⟩
    · rcases key i b h1 with ⟨e1, e2⟩ | ⟨n1, k1⟩ <;> rcases key j b h2 with ⟨e3, e4⟩ | ⟨n2, k2⟩
      · rw [e1, e3]
      · have := (h.good.bxm j _ k2).2; omega
      · have := (h.good.bxm i _ k1).2; omega
      · exact h.good.bxi i j b k1 k2
    · rcases key i b h1 with ⟨rfl, rfl⟩ | ⟨n1, h1⟩
      · have := (h.good.tgm n _ l h2).2; omega
      · exact h.good.bt i n b l h1 h2
  have h3 := h1.adv S he (h.kept.alloc _) hg
  have hlt : d < a.tmps.size := by rw [h.sz]; exact hd
  refine ⟨by simp [Act.put, h.sz], h3.kept, h3.glob, fun i => ?_, fun d' tid' cs' hd' => ?_, hg, fun q hq => ?_⟩
  case refine_3 =>
    rcases List.mem_cons.1 hq with rfl | hq
    · exact ⟨.pointer (some ⟨w.heap.size, 0, none⟩), _, by simp [Fr.setBx], rfl⟩
    · exact h3.ent q hq
  · show RP _ _ _ (getS ((d, _) :: _) i) ((a.tmps.setIfInBounds d _).getD i undef)
    rw [getD_put _ hlt]
    simp only [getS]
    by_cases hi : i = d
    · subst hi
      rw [show Nat.beq i i = true from Nat.beq_refl i]
      simp only [cond_true, if_true]
      exact ⟨_, by simp [Fr.setBx], rfl⟩
    · have : Nat.beq d i = false := by cases hb : Nat.beq d i; rfl; exact absurd (Nat.eq_of_beq_eq_true hb).symm hi
      simp only [this, cond_false, hi, if_false]
      exact h3.slot i
  · simp only [St.newBox, getB] at hd'
    cases hb : Nat.beq d d' with
    | true =>
      have := Nat.eq_of_beq_eq_true hb
      subst this
      simp only [hb, cond_true, Option.some.injEq, Prod.mk.injEq] at hd'
      obtain ⟨rfl, rfl⟩ := hd'
      refine ⟨w.heap.size, vs, by simp [Fr.setBx], heap_push_eq w _, ?_⟩
      exact (RCs.map hmap hc).step S fun c _ => he.stays c
    | false =>
      simp only [hb, cond_false] at hd'
      exact h3.box d' tid' cs' hd'

/-- A row of the frame's own is made, or written on: whoever held one of the names l holds nothing. -/
theorem Inv.newTag {X : Ctx} {A : Fr} {σ : St} {tm : Array Value} {w w' : World} (h : Inv X A σ tm w) {l : List Nat} {n g len : Nat} (hn : n ∈ l)
    (hkeep : ∀ b, b < w.heap.size → (¬ X.F A b ∨ (∃ d, A.bx d = some b) ∨ ∃ m k, A.tg m = some (b, k) ∧ m ∉ l) → w'.heap[b]? = w.heap[b]?)
    (hk : Kept X.G X.W w') (hmine : X.Mine g ∧ g < w'.heap.size) (hsize : w.heap.size ≤ w'.heap.size)
    (hg : w.heap.size ≤ g ∨ ∃ m k, A.tg m = some (g, k) ∧ m ∈ l) :
    Inv X ((A.drop l).setTg n (some (g, len))) (σ.kill l) tm w' := by
  have hF : ∀ b, X.F ((A.drop l).setTg n (some (g, len))) b → X.F A b ∨ b = g := fun b hb => by
    rcases hb with hb | hb | ⟨m, k, hb⟩
    · exact .inl (.inl hb)
    · exact .inl (.inr (.inl hb))
    · simp only [Fr.setTg] at hb
      split at hb
      · cases hb; exact .inr rfl
      · exact .inl (Fr.drop_F (.inr (.inr ⟨m, k, hb⟩)))
  have hgF : X.F A g ∨ w.heap.size ≤ g := by
    rcases hg with hg | ⟨m, k, hg, _⟩
    · exact .inr hg
    · exact .inl (.inr (.inr ⟨m, k, hg⟩))
  have S : Step (X.F A) (X.F ((A.drop l).setTg n (some (g, len)))) w w' := ⟨fun b hb hlt => hkeep b hlt (.inl hb), fun b hb => by
    rcases hF b hb with h1 | rfl
    · exact .inl h1
    · exact hgF⟩
  have htg : ∀ m, m ∉ l → ((A.drop l).setTg n (some (g, len))).tg m = A.tg m := fun m hm => by
    have h1 : m ≠ n := fun e => hm (e ▸ hn)
    have h2 : mem l m = false := by cases hb : mem l m; rfl; exact absurd (mem_iff.1 hb) hm
    simp [Fr.setTg, Fr.drop, h1, h2]
  have hkill : σ.kill l = σ.map (PC.mapTag fun n => bif mem l n then some false else none) := by
    cases l with
    | nil => cases hn
    | cons x l => rfl
  rw [hkill]
  refine h.map (fun c v hc => ?_) hk S ?_ (fun d tid cs b vs _ hb hw => ⟨hb, (hkeep b (h.good.bxm d b hb).2 (.inr (.inl ⟨d, hb⟩))).trans hw⟩)
  · cases c with
    | slice e t xs q =>
      cases q with
      | no => exact RC.step S trivial hc
      | nil => exact RC.step S trivial hc
      | exact => exact RC.step S trivial hc
      | own m =>
        unfold PC.mapTag
        by_cases hm : m ∈ l
        · simp only [mem_iff.2 hm, cond_true]; exact RC.one hc
        · have hm' : mem l m = false := by cases hb : mem l m; rfl; exact absurd (mem_iff.1 hb) hm
          simp only [hm', cond_false]
          exact RC.step S ⟨fun e => (htg m hm).trans e, fun b k hb => ⟨(htg m hm).trans hb, hkeep b (h.good.tgm m b k hb).2 (.inr (.inr ⟨m, k, hb, hm⟩))⟩⟩ hc
    | elemT u m i o =>
      unfold PC.mapTag
      by_cases hm : m ∈ l
      · simp only [mem_iff.2 hm, cond_true]; exact RC.one hc
      · have hm' : mem l m = false := by cases hb : mem l m; rfl; exact absurd (mem_iff.1 hb) hm
        simp only [hm', cond_false]
        exact RC.step S (fun b k hb => (htg m hm).trans hb) hc
    | box d o => exact RC.step S (fun _ h => h) hc
    | _ => exact RC.step S trivial hc
  · have key : ∀ m b k, ((A.drop l).setTg n (some (g, len))).tg m = some (b, k) → (m = n ∧ b = g) ∨ (m ∉ l ∧ A.tg m = some (b, k)) := fun m b k hb => by
      simp only [Fr.setTg] at hb
      split at hb
      · cases hb; exact .inl ⟨‹_›, rfl⟩
      · simp only [Fr.drop] at hb
        split at hb
        · cases hb
        · rename_i hm
          exact .inr ⟨fun hx => hm (mem_iff.2 hx), hb⟩
    have hfresh : ∀ m k, A.tg m = some (g, k) → m ∉ l → False := fun m k hm hl => by
      rcases hg with hg | ⟨m', k', hg, hl'⟩
      · have := (h.good.tgm m g k hm).2; omega
      · exact hl (h.good.tgi m m' g k k' hm hg ▸ hl')
    have hfreshb : ∀ d, A.bx d = some g → False := fun d hd => by
      rcases hg with hg | ⟨m', k', hg, hl'⟩
      · have := (h.good.bxm d g hd).2; omega
      · exact h.good.bt d m' g k' hd hg
    refine ⟨fun d b hb => ?_, fun m b k hb => ?_, h.good.bxi, fun m m' b k k' h1 h2 => ?_, fun d m b k h1 h2 => ?_, h.good.f0⟩
    · have := h.good.bxm d b hb; exact ⟨this.1, by omega⟩
    · rcases key m b k hb with ⟨_, rfl⟩ | ⟨_, hb⟩
      · exact hmine
      · have := h.good.tgm m b k hb; exact ⟨this.1, by omega⟩
    · rcases key m b k h1 with ⟨e1, e2⟩ | ⟨n1, k1⟩ <;> rcases key m' b k' h2 with ⟨e3, e4⟩ | ⟨n2, k2⟩
      · rw [e1, e3]
      · rw [e2] at k2; exact (hfresh _ _ k2 n2).elim
      · rw [e4] at k1; exact (hfresh _ _ k1 n1).elim
      · exact h.good.tgi m m' b k k' k1 k2
    · rcases key m b k h2 with ⟨_, rfl⟩ | ⟨_, k2⟩
      · exact hfreshb d h1
      · exact h.good.bt d m b k h1 k2

end Go.Sv
