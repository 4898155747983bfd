/- Operations that write nothing but their own slot: they do the same in every state that tells the same of their operands. -/
import Derived.Test.YtnooginekcnflaaEvT
namespace Go.Sv
open Go
set_option linter.unusedVariables false
set_option linter.unusedSimpArgs false

/-! ### names that are not met -/
theorem mapTag_same {d : Nat} {l : List Nat} (hl : ∀ n ∈ l, n / 64 = d) {c : PC} (hc : d ∉ c.refs) {h : Nat → Option Bool} (hh : ∀ n, n ∉ l → h n = none) : c.mapTag h = c := by
  cases c with
  | slice e t xs g =>
    cases g with
    | own n =>
      have : n ∉ l := fun hn => hc (by rw [← hl n hn]; exact List.mem_singleton.2 rfl)
      simp [PC.mapTag, hh n this]
    | _ => rfl
  | elemT u g i o =>
    have : g ∉ l := fun hn => hc (by rw [← hl g hn]; exact List.mem_singleton.2 rfl)
    simp [PC.mapTag, hh g this]
  | _ => rfl
theorem unbox_same {d : Nat} {c : PC} (hc : d ∉ c.refs) : PC.unbox d c = c := by
  cases c with
  | box d' o =>
    have : ¬ d' = d := fun e => hc (by rw [e]; exact List.mem_singleton.2 rfl)
    have hb : Nat.beq d' d = false := by
      cases h : Nat.beq d' d with
      | false => rfl
      | true => exact absurd (Nat.eq_of_beq_eq_true h) this
    simp [PC.unbox, hb]
  | _ => rfl

theorem map_same {f : PC → PC} {cs : List PC} (h : ∀ c ∈ cs, f c = c) : cs.map f = cs := by
  induction cs with
  | nil => rfl
  | cons c cs ih => rw [List.map_cons, h c (List.mem_cons_self ..), ih fun c hc => h c (List.mem_cons_of_mem _ hc)]
theorem SV.map_same {f : PC → PC} {s : SV} (h : ∀ c ∈ s.cells, f c = c) : s.map f = s := by
  cases s with
  | one c => simp only [SV.map, h c (List.mem_singleton.2 rfl)]
  | agg cs => exact congrArg SV.agg (Go.Sv.map_same h)
theorem PV.map_same {f : PC → PC} {d : Nat} {p : PV} (hp : d ∉ p.refs) (h : ∀ c, d ∉ c.refs → f c = c) : p.map f = p := by
  have sv : ∀ s : SV, d ∉ s.refs → s.map f = s := fun s hs => SV.map_same fun c hc => h c fun hd => hs (List.mem_flatMap.2 ⟨c, hc, hd⟩)
  cases p with
  | undef => rfl
  | void => rfl
  | sv s => simp only [PV.map, sv s hp]
  | tup l =>
    simp only [PV.map]
    congr 1
    induction l with
    | nil => rfl
    | cons s l ih =>
      rw [List.map_cons, sv s fun hd => hp (List.mem_flatMap.2 ⟨s, List.mem_cons_self .., hd⟩), ih fun hd => hp (by
        obtain ⟨s', h1, h2⟩ := List.mem_flatMap.1 hd
        exact List.mem_flatMap.2 ⟨s', List.mem_cons_of_mem _ h1, h2⟩)]
theorem entRefs_mem : ∀ {l : List (Nat × PV)} {p : Nat × PV} {q : Nat}, p ∈ l → q ∈ p.2.refs → q ∈ entRefs l
  | (i, v) :: r, p, q, h, hq => by
    rcases List.mem_cons.1 h with rfl | h
    · exact List.mem_append_left _ hq
    · exact List.mem_append_right _ (entRefs_mem h hq)
theorem boxRefs_mem : ∀ {l : List (Nat × (TypeId × List PC))} {p : Nat × (TypeId × List PC)}, p ∈ l → p.1 ∈ boxRefs l ∧ ∀ q ∈ p.2.2.flatMap PC.refs, q ∈ boxRefs l
  | (d, (t, cs)) :: r, p, h => by
    rcases List.mem_cons.1 h with rfl | h
    · exact ⟨List.mem_cons_self .., fun q hq => List.mem_cons_of_mem _ (List.mem_append_left _ hq)⟩
    · obtain ⟨h1, h2⟩ := boxRefs_mem h
      exact ⟨List.mem_cons_of_mem _ (List.mem_append_right _ h1), fun q hq => List.mem_cons_of_mem _ (List.mem_append_right _ (h2 q hq))⟩

/-- A name that no entry and no box leans on. -/
structure Free (d : Nat) (σ : St) : Prop where
  ent : ∀ p ∈ σ.s, d ∉ p.2.refs
  box : ∀ p ∈ σ.b, d ≠ p.1 ∧ ∀ c ∈ p.2.2, d ∉ c.refs

theorem Free.map {d : Nat} {σ : St} (h : Free d σ) {f : PC → PC} (hf : ∀ c, d ∉ c.refs → f c = c) : σ.map f = σ := by
  obtain ⟨s, b⟩ := σ
  simp only [St.map]
  congr 1
  · have : ∀ l : List (Nat × PV), (∀ p ∈ l, d ∉ p.2.refs) → l.map (fun p => (p.1, p.2.map f)) = l := fun l => by
      induction l with
      | nil => intro _; rfl
      | cons p l ih => intro hl; rw [List.map_cons, PV.map_same (hl p (List.mem_cons_self ..)) hf, ih fun q hq => hl q (List.mem_cons_of_mem _ hq)]
    exact this s h.ent
  · have : ∀ l : List (Nat × (TypeId × List PC)), (∀ p ∈ l, ∀ c ∈ p.2.2, d ∉ c.refs) → l.map (fun p => (p.1, (p.2.1, p.2.2.map f))) = l := fun l => by
      induction l with
      | nil => intro _; rfl
      | cons p l ih => intro hl; rw [List.map_cons, Sv.map_same fun c hc => hf c (hl p (List.mem_cons_self ..) c hc), ih fun q hq => hl q (List.mem_cons_of_mem _ hq)]
    exact this b fun p hp => (h.box p hp).2

theorem Free.kill {d : Nat} {σ : St} (h : Free d σ) {l : List Nat} (hl : ∀ n ∈ l, n / 64 = d) : σ.kill l = σ := by
  rw [St.kill_eq]
  exact h.map fun c hc => mapTag_same hl hc fun n hn => by rw [mem_false hn]; rfl

theorem Free.newBox {d : Nat} {σ : St} (h : Free d σ) {tid : TypeId} {cs : List PC} (hc : ∀ c ∈ cs, d ∉ c.refs) : σ.newBox d tid cs = { s := (d, .sv (.one (.box d 0))) :: σ.s, b := (d, (tid, cs)) :: σ.b } := by
  unfold St.newBox
  rw [h.map fun c hc => unbox_same hc, Sv.map_same fun c hc' => unbox_same (hc c hc')]
  have : delB σ.b d = σ.b := by
    have hb := h.box
    generalize σ.b = b at hb
    induction b with
    | nil => rfl
    | cons p b ih =>
      obtain ⟨j, v⟩ := p
      have hne := (hb _ (List.mem_cons_self ..)).1
      have hbq : Nat.beq j d = false := by
        cases h : Nat.beq j d with
        | false => rfl
        | true => exact absurd (Nat.eq_of_beq_eq_true h).symm hne
      simp only [delB, hbq, cond_false]
      rw [ih fun p hp => hb p (List.mem_cons_of_mem _ hp)]
  simp only [this]

/-! ### the same, in another state -/
theorem get_put_self (σ : St) (d : Nat) (v : PV) : (σ.put (some d) v).get d = v := by rw [St.get_put]; simp

section
variable {E : Env} {run : Runs E}

theorem loadK_congr {σ τ : St} {t : TypeId} {p : PV} (hp : ∀ u g n o, p ≠ .sv (.one (.elemT u g n o))) (hb : ∀ q ∈ p.refs, getB τ.b q = getB σ.b q) {R : Type} (K : SV → Option R) : loadK E τ t p K = loadK E σ t p K := by
  unfold loadK
  split
  · rfl
  · split
    · rename_i d off
      rw [hb d (List.mem_singleton.2 rfl)]
    · rfl
    · exact absurd rfl (hp _ _ _ _)
    · rfl

theorem fillParts_congr {σ τ : St} {place : Nat → Option (Nat × TypeId)} : ∀ {parts : List (Nat × Operand)} (cs : List PC), (∀ p ∈ parts, τ.ev p.2 = σ.ev p.2) → fillParts E place τ parts cs = fillParts E place σ parts cs
  | [], cs, h => rfl
  | (i, x) :: r, cs, h => by
    have h0 := h (i, x) (List.mem_cons_self ..)
    simp only at h0
    simp only [fillParts, h0]
    split
    · rfl
    · split
      · split
        · exact fillParts_congr _ fun p hp => h p (List.mem_cons_of_mem _ hp)
        · rfl
      · rfl

theorem elemsOf_congr {σ τ : St} {e : TypeId} {u : Ty} : ∀ {parts : List (Nat × Operand)} (n i : Nat), (∀ p ∈ parts, τ.ev p.2 = σ.ev p.2) → elemsOf E e u τ parts n i = elemsOf E e u σ parts n i
  | [], n, i, h => rfl
  | (j, x) :: r, 0, i, h => rfl
  | (j, x) :: r, n + 1, i, h => by
    have h0 := h (j, x) (List.mem_cons_self ..)
    simp only at h0
    simp only [elemsOf, h0, elemsOf_congr n (i + 1) fun p hp => h p (List.mem_cons_of_mem _ hp)]

theorem partTags_congr {σ τ : St} : ∀ {parts : List (Nat × Operand)}, (∀ p ∈ parts, τ.ev p.2 = σ.ev p.2) → partTags τ parts = partTags σ parts
  | [], h => rfl
  | (j, x) :: r, h => by
    have h0 := h (j, x) (List.mem_cons_self ..)
    simp only at h0
    simp only [partTags, h0, partTags_congr fun p hp => h p (List.mem_cons_of_mem _ hp)]

theorem evSVs_congr {σ τ : St} : ∀ {l : List Operand}, (∀ x ∈ l, τ.ev x = σ.ev x) → evSVs τ l = evSVs σ l
  | [], h => rfl
  | x :: r, h => by simp only [evSVs, h x (List.mem_cons_self ..), evSVs_congr fun y hy => h y (List.mem_cons_of_mem _ hy)]

theorem optInt_congr {σ τ : St} {x : Option Operand} (h : ∀ y, x = some y → τ.ev y = σ.ev y) : optInt τ x = optInt σ x := by
  cases x with
  | none => rfl
  | some y => simp only [optInt, h y rfl]

theorem pack_congr {σ τ : St} {k : Kd} {s : SV} (hb : ∀ q ∈ s.refs, getB τ.b q = getB σ.b q) : k.pack τ s = k.pack σ s := by
  have hbx : ∀ d o, s = .one (.box d o) → getB τ.b d = getB σ.b d := fun d o e => hb d (by rw [e]; exact List.mem_flatMap.2 ⟨_, List.mem_singleton.2 rfl, List.mem_singleton.2 rfl⟩)
  cases k <;> cases s <;> try rfl
  all_goals
    rename_i c
    cases c <;> try rfl
  all_goals first
    | (rename_i d o; simp only [Kd.pack, hbx d o rfl]; done)
    | (rename_i d o; cases o <;> simp only [Kd.pack, hbx d _ rfl]; done)
    | (rename_i g; cases g <;> rfl)

theorem packAll_congr {σ τ : St} : ∀ {ks : List Kd} {l : List SV}, (∀ s ∈ l, ∀ q ∈ s.refs, getB τ.b q = getB σ.b q) → packAll τ ks l = packAll σ ks l
  | [], l, h => by cases l <;> rfl
  | [k], [], h => rfl
  | [k], [s], h => pack_congr (h s (List.mem_cons_self ..))
  | [k], s :: s' :: l, h => rfl
  | k :: k' :: ks, [], h => rfl
  | k :: k' :: ks, s :: ss, h => by
    rw [packAll, packAll, pack_congr (h s (List.mem_cons_self ..)), packAll_congr fun t ht => h t (List.mem_cons_of_mem _ ht)]

theorem hand_congr {σ τ : St} {k : Kd} {s : SV} {i j : Nat} {h : Hand} (hb : ∀ q ∈ s.refs, getB τ.b q = getB σ.b q) : k.hand τ i j s h = k.hand σ i j s h := by
  have hbx : ∀ d o, s = .one (.box d o) → getB τ.b d = getB σ.b d := fun d o e => hb d (by rw [e]; exact List.mem_flatMap.2 ⟨_, List.mem_singleton.2 rfl, List.mem_singleton.2 rfl⟩)
  cases k <;> cases s <;> try rfl
  all_goals
    rename_i c
    cases c <;> try rfl
  all_goals first
    | (rename_i d o; simp only [Kd.hand, hbx d o rfl]; done)
    | (rename_i d o; cases o <;> simp only [Kd.hand, hbx d _ rfl]; done)
    | (rename_i g; cases g <;> rfl)

theorem handAll_congr {σ τ : St} : ∀ {ks : List (Nat × Nat × Kd)} {l : List SV} {h : Hand}, (∀ s ∈ l, ∀ q ∈ s.refs, getB τ.b q = getB σ.b q) → handAll τ ks l h = handAll σ ks l h
  | [], l, h, hb => by cases l <;> rfl
  | (i, j, k) :: ks, [], h, hb => rfl
  | (i, j, k) :: ks, s :: ss, h, hb => by
    simp only [handAll, hand_congr (hb s (List.mem_cons_self ..))]
    split
    · exact handAll_congr fun t ht => hb t (List.mem_cons_of_mem _ ht)
    · rfl

theorem handed_congr {σ τ : St} {ks : List (Nat × Nat × Kd)} {l : List SV} (hb : ∀ s ∈ l, ∀ q ∈ s.refs, getB τ.b q = getB σ.b q) : handed τ ks l = handed σ ks l := by
  unfold handed
  rw [handAll_congr hb]

end
end Go.Sv
