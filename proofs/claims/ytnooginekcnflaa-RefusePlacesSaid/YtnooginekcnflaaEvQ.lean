/- Calls: what a caller makes of a callee's promise. -/
import Derived.Test.YtnooginekcnflaaEvP
namespace Go.Sv
open Go
set_option linter.unusedVariables false
set_option linter.unusedSimpArgs false

/-! ### maps of cells, one after the other -/
theorem PC.map_id : ∀ c, PC.mapTag (fun _ => none) c = c := fun c => by
  cases c with
  | slice e t xs g => cases g <;> rfl
  | _ => rfl
theorem PC.map_id' : (PC.mapTag fun _ => none) = id := funext PC.map_id
theorem SV.map_id (s : SV) : s.map (PC.mapTag fun _ => none) = s := by
  cases s with
  | one c => simp [SV.map, PC.map_id]
  | agg cs => simp [SV.map, PC.map_id']
theorem PV.map_id (p : PV) : p.map (PC.mapTag fun _ => none) = p := by
  cases p with
  | undef => rfl
  | void => rfl
  | sv s => simp [PV.map, SV.map_id]
  | tup l => simp [PV.map, SV.map_id]
theorem St.map_id (σ : St) : σ.map (PC.mapTag fun _ => none) = σ := by
  obtain ⟨s, b⟩ := σ
  simp [St.map, PV.map_id]
  simp [PC.map_id']

theorem SV.map_map (f g : PC → PC) (s : SV) : (s.map g).map f = s.map (f ∘ g) := by cases s <;> simp [SV.map]
theorem PV.map_map (f g : PC → PC) (p : PV) : (p.map g).map f = p.map (f ∘ g) := by cases p <;> simp [PV.map, SV.map_map]
theorem St.map_map (f g : PC → PC) (σ : St) : (σ.map g).map f = σ.map (f ∘ g) := by
  obtain ⟨s, b⟩ := σ
  simp [St.map, PV.map_map, List.map_map, Function.comp_def]

theorem St.kill_eq (l : List Nat) (σ : St) : σ.kill l = σ.map (PC.mapTag fun n => bif mem l n then some false else none) := by
  cases l with
  | nil => exact (St.map_id σ).symm
  | cons x l => rfl
theorem St.release_eq (l : List Nat) (σ : St) : σ.release l = σ.map (PC.mapTag fun n => bif mem l n then some true else none) := by
  cases l with
  | nil => exact (St.map_id σ).symm
  | cons x l => rfl

theorem mem_false {l : List Nat} {n : Nat} (h : n ∉ l) : mem l n = false := by
  cases hb : mem l n with
  | false => rfl
  | true => exact absurd (mem_iff.1 hb) h

section
variable {X : Ctx} {σ : St}

/-- The frame's blocks that a callee may write. -/
def Hand.G (H : Hand) (A : Fr) (b : Nat) : Prop := ∃ n l, n ∈ H.srcs ∧ A.tg n = some (b, l)
/-- The frame's blocks of which a callee's values tell nothing. -/
def Hand.F0 (X : Ctx) (H : Hand) (A : Fr) (b : Nat) : Prop := X.F0 b ∨ (∃ d, A.bx d = some b ∧ d ∉ H.pm) ∨ ∃ n l, A.tg n = some (b, l) ∧ n ∉ H.srcs ∧ n ∉ H.pl

def Fr.after (A T : Fr) (H : Hand) (rl names : List Nat) : Fr := ⟨A.bx, fun m => if m ∈ names then T.tg m else if m ∈ H.srcs ∨ m ∈ rl then none else A.tg m⟩

theorem Inv.afterCall {A T : Fr} {tm : Array Value} {w w' : World} (h : Inv X A σ tm w) {H : Hand} (hH : H.OK) {rl names : List Nat} (hrl : ∀ m ∈ rl, m ∈ H.pl) (hk : Kept (H.G A) w w')
    (htm : ∀ n b l, T.tg n = some (b, l) → (w.heap.size ≤ b ∨ H.G A b) ∧ b < w'.heap.size) (hti : ∀ n n' b l l', T.tg n = some (b, l) → T.tg n' = some (b, l') → n = n') :
    Inv X (A.after T H rl names) (((σ.kill H.srcs).release rl).kill names) tm w' := by
  have hGF : ∀ b, H.G A b → X.F A b := fun b ⟨n, l, _, hb⟩ => .inr (.inr ⟨n, l, hb⟩)
  have htg : ∀ m b l, (A.after T H rl names).tg m = some (b, l) → (m ∈ names ∧ T.tg m = some (b, l)) ∨ (m ∉ names ∧ m ∉ H.srcs ∧ m ∉ rl ∧ A.tg m = some (b, l)) := fun m b l hb => by
    simp only [Fr.after] at hb
    split at hb
    · exact .inl ⟨‹_›, hb⟩
    · split at hb
      · cases hb
      · rename_i h1 h2
        exact .inr ⟨h1, fun h => h2 (.inl h), fun h => h2 (.inr h), hb⟩
  have hsame : ∀ m, m ∉ names → m ∉ H.srcs → m ∉ rl → (A.after T H rl names).tg m = A.tg m := fun m h1 h2 h3 => by simp [Fr.after, h1, h2, h3]
  have hheap : ∀ b, b < w.heap.size → ¬ H.G A b → w'.heap[b]? = w.heap[b]? := fun b hb hg => hk.block b hb hg
  have hnG : ∀ m b l, A.tg m = some (b, l) → m ∉ H.srcs → ¬ H.G A b := fun m b l hm hs ⟨n, l', hn, hb⟩ => hs (h.good.tgi n m b l' l hb hm ▸ hn)
  have hnB : ∀ d b, A.bx d = some b → ¬ H.G A b := fun d b hd ⟨n, l', hn, hb⟩ => h.good.bt d n b l' hd hb
  have S : Step (X.F A) (X.F (A.after T H rl names)) w w' := ⟨fun b hb hlt => hheap b hlt fun hg => hb (hGF b hg), fun b hb => by
    rcases hb with hb | hb | ⟨m, l, hb⟩
    · exact .inl (.inl hb)
    · exact .inl (.inr (.inl hb))
    · rcases htg m b l hb with ⟨_, hb⟩ | ⟨_, _, _, hb⟩
      · rcases (htm m b l hb).1 with h1 | h1
        · exact .inr h1
        · exact .inl (hGF b h1)
      · exact .inl (.inr (.inr ⟨m, l, hb⟩))⟩
  have hnF : ∀ m b l, A.tg m = some (b, l) → m ∈ rl → ¬ X.F (A.after T H rl names) b := fun m b l hm hr hF => by
    have hns : m ∉ H.srcs := hH.pl m (hrl m hr)
    rcases hF with hF | ⟨d, hF⟩ | ⟨m', l', hF⟩
    · exact h.good.f0m (h.good.tgm m b l hm).1 hF
    · exact h.good.bt d m b l hF hm
    · rcases htg m' b l' hF with ⟨_, hF⟩ | ⟨_, _, h3, hF⟩
      · rcases (htm m' b l' hF).1 with h1 | h1
        · have := (h.good.tgm m b l hm).2; omega
        · exact hnG m b l hm hns h1
      · exact h3 (h.good.tgi m m' b l l' hm hF ▸ hr)
  rw [St.kill_eq, St.release_eq, St.kill_eq, St.map_map, St.map_map]
  refine h.map (fun c v hc => ?_) (h.kept.trans hk fun b ⟨n, l, _, hb⟩ => ?_) S ?_ (fun d tid cs b vs _ hb hw => ⟨hb, (hheap b (h.good.bxm d b hb).2 (hnB d b hb)).trans hw⟩)
  · cases c with
    | slice e t xs g =>
      cases g with
      | no => exact RC.step S trivial hc
      | nil => exact RC.step S trivial hc
      | exact => exact RC.step S trivial hc
      | own m =>
        simp only [Function.comp, PC.mapTag]
        by_cases h1 : m ∈ H.srcs
        · simp only [mem_iff.2 h1, cond_true, PC.mapTag]; exact RC.one hc
        · simp only [mem_false h1, cond_false, PC.mapTag]
          by_cases h2 : m ∈ rl
          · simp only [mem_iff.2 h2, cond_true, PC.mapTag]
            rcases hc with ⟨_, rfl, a, rfl⟩ | ⟨g, k, hg, ho⟩
            · show Cl _ _ _ _ _
              rw [Cl]; exact ⟨a, 0, rfl, Nat.le_refl _, .inl rfl⟩
            · exact (ho.step S (hheap g (h.good.tgm m g k hg).2 (hnG m g k hg h1))).plain (hnF m g k hg h2)
          · simp only [mem_false h2, cond_false, PC.mapTag]
            by_cases h3 : m ∈ names
            · simp only [mem_iff.2 h3, cond_true]; exact RC.one hc
            · simp only [mem_false h3, cond_false]
              exact RC.step S ⟨fun e => (hsame m h3 h1 h2).trans e, fun g k hg => ⟨(hsame m h3 h1 h2).trans hg, hheap g (h.good.tgm m g k hg).2 (hnG m g k hg h1)⟩⟩ hc
    | elemT u m i o =>
      simp only [Function.comp, PC.mapTag]
      by_cases h1 : m ∈ H.srcs
      · simp only [mem_iff.2 h1, cond_true, PC.mapTag]; exact RC.one hc
      · simp only [mem_false h1, cond_false, PC.mapTag]
        by_cases h2 : m ∈ rl
        · simp only [mem_iff.2 h2, cond_true, PC.mapTag]; exact RC.one hc
        · simp only [mem_false h2, cond_false, PC.mapTag]
          by_cases h3 : m ∈ names
          · simp only [mem_iff.2 h3, cond_true]; exact RC.one hc
          · simp only [mem_false h3, cond_false]
            exact RC.step S (fun g k hg => (hsame m h3 h1 h2).trans hg) hc
    | box d o => exact RC.step S (fun _ h => h) hc
    | _ => exact RC.step S trivial hc
  · exact (h.good.tgm n b l hb).1.symm
  · refine ⟨fun d b hb => ?_, fun m b k hb => ?_, h.good.bxi, fun m m' b k k' h1 h2 => ?_, fun d m b k h1 h2 => ?_, h.good.f0⟩
    · have := h.good.bxm d b hb; exact ⟨this.1, Nat.lt_of_lt_of_le this.2 hk.size⟩
    · rcases htg m b k hb with ⟨_, hb⟩ | ⟨_, _, _, hb⟩
      · obtain ⟨h1, h2⟩ := htm m b k hb
        refine ⟨?_, h2⟩
        rcases h1 with h1 | ⟨n, l, _, h1⟩
        · exact .inl (Nat.le_trans h.kept.size h1)
        · exact (h.good.tgm n b l h1).1
      · have := h.good.tgm m b k hb; exact ⟨this.1, Nat.lt_of_lt_of_le this.2 hk.size⟩
    · have mix : ∀ {m m' b k k'}, T.tg m = some (b, k) → A.tg m' = some (b, k') → m' ∉ H.srcs → False := fun {m m' b k k'} q1 q2 q3 => by
        rcases (htm m b k q1).1 with q | q
        · have := (h.good.tgm m' b k' q2).2; omega
        · exact hnG m' b k' q2 q3 q
      rcases htg m b k h1 with ⟨_, k1⟩ | ⟨_, s1, _, k1⟩ <;> rcases htg m' b k' h2 with ⟨_, k2⟩ | ⟨_, s2, _, k2⟩
      · exact hti m m' b k k' k1 k2
      · exact (mix k1 k2 s2).elim
      · exact (mix k2 k1 s1).elim
      · exact h.good.tgi m m' b k k' k1 k2
    · rcases htg m b k h2 with ⟨_, k2⟩ | ⟨_, _, _, k2⟩
      · rcases (htm m b k k2).1 with q | q
        · have := (h.good.bxm d b h1).2; omega
        · exact hnB d b h1 q
      · exact h.good.bt d m b k h1 k2

/-! ### the names of a result -/
def Named (names : List Nat) : PC → Prop
  | .slice _ _ _ (.own m) => m ∈ names
  | .elemT _ _ _ _ => False
  | _ => True

theorem toPC_named (names : List Nat) : ∀ (t : Ty) (x : t.den), ∀ c ∈ t.toPC x, Named names c ∧ ∀ e u xs n, c ≠ .slice e u xs (.own n)
  | .bool, x, c, hc => by rw [List.mem_singleton.1 hc]; exact ⟨trivial, by simp⟩
  | .int _, x, c, hc => by rw [List.mem_singleton.1 hc]; exact ⟨trivial, by simp⟩
  | .str, x, c, hc => by rw [List.mem_singleton.1 hc]; exact ⟨trivial, by simp⟩
  | .fn, x, c, hc => by rw [List.mem_singleton.1 hc]; exact ⟨trivial, by simp⟩
  | .slice _ _, x, c, hc => by rw [List.mem_singleton.1 hc]; exact ⟨trivial, by simp⟩
  | .pair a b, x, c, hc => by
    rcases List.mem_append.1 hc with hc | hc
    · exact toPC_named names a _ c hc
    · exact toPC_named names b _ c hc

theorem leafs_none {slot j : Nat} : ∀ {k : Nat} (cs : List PC), leafs [] slot j k cs = cs
  | _, [] => rfl
  | k, c :: r => by cases c <;> simp [leafs, leafs_none r, mem]

theorem leafs_named (names own : List Nat) (slot j : Nat) (hn : ∀ k ∈ own, tagOf slot j k ∈ names) : ∀ (k : Nat) (cs : List PC), (∀ c ∈ cs, Named names c) → ∀ c ∈ leafs own slot j k cs, Named names c
  | _, [], _, c, hc => by cases hc
  | k, c0 :: r, h, c, hc => by
    have hr := leafs_named names own slot j hn (k + 1) r (fun c hc => h c (List.mem_cons_of_mem _ hc))
    have h0 := h c0 (List.mem_cons_self ..)
    cases c0 with
    | slice e t xs g =>
      simp only [leafs, List.mem_cons] at hc
      rcases hc with rfl | hc
      · cases hm : mem own k with
        | true => exact hn k (mem_iff.1 hm)
        | false => exact h0
      · exact hr c hc
    | _ =>
      simp only [leafs, List.mem_cons] at hc
      rcases hc with rfl | hc
      · exact h0
      · exact hr c hc

theorem unpack_named {names : List Nat} {slot j : Nat} {k : Kd} (hn : ∀ q ∈ k.own, tagOf slot j q ∈ names) (x : k.den) : ∀ c ∈ (k.unpack slot j x).cells, Named names c := by
  cases k with
  | v t own =>
    have hl := leafs_named names own slot j hn 0 (t.toPC x) (fun c hc => (toPC_named names t x c hc).1)
    intro c hc
    simp only [Kd.unpack] at hc
    cases hq : t.isPair with
    | true => simp only [hq, cond_true, SV.cells] at hc; exact hl c hc
    | false =>
      simp only [hq, cond_false] at hc
      split at hc
      · rename_i c0 he
        rw [he] at hl
        simp only [SV.cells] at hc
        exact hl c hc
      · exact hl c hc
  | n e t => intro c hc; simp only [Kd.unpack, SV.cells, List.mem_singleton] at hc; subst hc; trivial
  | p t => intro c hc; simp only [Kd.unpack, SV.cells, List.mem_singleton] at hc; subst hc; trivial
  | b t tid own => intro c hc; simp only [Kd.unpack, SV.cells, List.mem_singleton] at hc; subst hc; trivial
  | f => intro c hc; simp only [Kd.unpack, SV.cells, List.mem_singleton] at hc; subst hc; trivial

theorem unpackAll_named {names : List Nat} {d : Nat} : ∀ {j : Nat} {ks : List Kd} (x : Tup ks), (∀ m ∈ ownNames d j ks, m ∈ names) → ∀ s ∈ unpackAll d j ks x, ∀ c ∈ s.cells, Named names c
  | j, [], x, h, s, hs, c, hc => by cases hs
  | j, [k], x, h, s, hs, c, hc => by
    simp only [unpackAll, List.mem_singleton] at hs
    subst hs
    exact unpack_named (fun q hq => h _ (List.mem_append_left _ (List.mem_map.2 ⟨q, hq, rfl⟩))) x c hc
  | j, k :: k' :: ks, x, h, s, hs, c, hc => by
    simp only [unpackAll, List.mem_cons] at hs
    rcases hs with rfl | hs
    · exact unpack_named (fun q hq => h _ (List.mem_append_left _ (List.mem_map.2 ⟨q, hq, rfl⟩))) x.1 c hc
    · exact unpackAll_named (ks := k' :: ks) x.2 (fun m hm => h m (List.mem_append_right _ hm)) s hs c hc

theorem resPV_all {d : Nat} {ks : List Kd} {x : Tup ks} {p : PC → Prop} (h : ∀ s ∈ unpackAll d 0 ks x, ∀ c ∈ s.cells, p c) : (resPV d ks x).all p := by
  unfold resPV
  split
  · trivial
  · rename_i s he
    rw [he] at h
    exact fun c hc => h s (List.mem_singleton.2 rfl) c hc
  · exact fun s hs c hc => h s hs c hc

/-! ### flat results -/
def FlatC : PC → Prop
  | .bool _ | .int _ _ | .str _ => True
  | .fnv q => q.caps = []
  | _ => False

theorem FlatC.move {F F' : Nat → Prop} {A A' : Fr} {w w' : World} {c : PC} {v : Value} (hf : FlatC c) (h : RC F A w c v) : RC F' A' w' c v := by
  cases c with
  | bool b => exact h
  | int k n => exact h
  | str s => exact h
  | fnv q =>
    have hq : q.caps = [] := hf
    obtain ⟨vs, rfl, hv⟩ := h
    rw [hq] at hv
    cases hv
    exact ⟨[], rfl, by rw [hq]; exact .nil⟩
  | _ => exact hf.elim

theorem toPC_flat : ∀ (t : Ty) (x : t.den), t.flat = true → ∀ c ∈ t.toPC x, FlatC c
  | .bool, x, _, c, hc => by rw [List.mem_singleton.1 hc]; trivial
  | .int _, x, _, c, hc => by rw [List.mem_singleton.1 hc]; trivial
  | .str, x, _, c, hc => by rw [List.mem_singleton.1 hc]; trivial
  | .fn, x, _, c, hc => by rw [List.mem_singleton.1 hc]; exact rfl
  | .slice _ _, x, hf, c, hc => by cases hf
  | .pair a b, x, hf, c, hc => by
    simp only [Ty.flat, Bool.and_eq_true] at hf
    rcases List.mem_append.1 hc with hc | hc
    · exact toPC_flat a _ hf.1 c hc
    · exact toPC_flat b _ hf.2 c hc

theorem leafs_flat (own : List Nat) (slot j : Nat) : ∀ (k : Nat) (cs : List PC), (∀ c ∈ cs, FlatC c) → leafs own slot j k cs = cs
  | _, [], _ => rfl
  | k, c0 :: r, h => by
    have h0 := h c0 (List.mem_cons_self ..)
    have hr := leafs_flat own slot j (k + 1) r fun c hc => h c (List.mem_cons_of_mem _ hc)
    cases c0 with
    | slice e t xs g => exact h0.elim
    | _ => simp only [leafs, hr]

theorem unpack_flat {slot j : Nat} {k : Kd} (hk : k.isFlat = true) (x : k.den) : ∀ c ∈ (k.unpack slot j x).cells, FlatC c := by
  cases k with
  | v t own =>
    have hf : t.flat = true := hk
    have hl := toPC_flat t x hf
    have he := leafs_flat own slot j 0 (t.toPC x) hl
    intro c hc
    simp only [Kd.unpack, he] at hc
    cases hq : t.isPair with
    | true => simp only [hq, cond_true, SV.cells] at hc; exact hl c hc
    | false =>
      simp only [hq, cond_false] at hc
      split at hc
      · rename_i c0 he2
        rw [he2] at hl
        exact hl c hc
      · exact hl c hc
  | _ => cases hk

theorem unpackAll_flat {d : Nat} : ∀ {j : Nat} {ks : List Kd} (x : Tup ks), ks.all Kd.isFlat = true → ∀ s ∈ unpackAll d j ks x, ∀ c ∈ s.cells, FlatC c
  | j, [], x, h, s, hs, c, hc => by cases hs
  | j, [k], x, h, s, hs, c, hc => by
    simp only [unpackAll, List.mem_singleton] at hs
    subst hs
    simp only [List.all_cons, Bool.and_eq_true] at h
    exact unpack_flat h.1 x c hc
  | j, k :: k' :: ks, x, h, s, hs, c, hc => by
    simp only [unpackAll, List.mem_cons] at hs
    rw [List.all_cons, Bool.and_eq_true] at h
    rcases hs with rfl | hs
    · exact unpack_flat h.1 x.1 c hc
    · exact unpackAll_flat (ks := k' :: ks) x.2 h.2 s hs c hc

theorem RS.imp {F F' : Nat → Prop} {A A' : Fr} {w w' : World} {s : SV} {v : Value} (hi : ∀ c ∈ s.cells, ∀ v, RC F A w c v → RC F' A' w' c v) (h : RS F A w s v) : RS F' A' w' s v := by
  cases s with
  | one c => exact hi c (List.mem_singleton.2 rfl) v h
  | agg cs => obtain ⟨vs, rfl, h⟩ := h; exact ⟨vs, rfl, forall2_imp h fun c v hc hr => hi c hc v hr⟩
theorem RP.imp {F F' : Nat → Prop} {A A' : Fr} {w w' : World} {p : PV} {v : Value} (hi : p.all fun c => ∀ v, RC F A w c v → RC F' A' w' c v) (h : RP F A w p v) : RP F' A' w' p v := by
  cases p with
  | undef => trivial
  | void => exact h
  | sv s => exact RS.imp hi h
  | tup l => obtain ⟨vs, rfl, h⟩ := h; exact ⟨vs, rfl, forall2_imp h fun s v hs hr => RS.imp (hi s hs) hr⟩

end
end Go.Sv
