/- Calls: what a function promises, and what a caller makes of it. -/
import Derived.Test.YtnooginekcnflaaEvO
namespace Go.Sv
open Go
set_option linter.unusedVariables false
set_option linter.unusedSimpArgs false

/-- What a callee may count on. -/
structure ArgsOK (E : Env) (F0 G : Nat → Prop) (A : Fr) (w : World) (ks : List Kd) (x : Tup ks) (vs : List Value) : Prop where
  rel : All2 (fun (p : Nat × PV) v => RP (A.F F0) A w p.2 v) (argsOf 0 ks x) vs
  bx : ∀ d, A.bx d = none
  tgm : ∀ n b l, A.tg n = some (b, l) → G b ∧ b < w.heap.size
  tgi : ∀ n n' b l l', A.tg n = some (b, l) → A.tg n' = some (b, l') → n = n'
  f0 : ∀ b, F0 b → b < w.heap.size ∧ ¬ G b
  glob : GlobOK E (A.F F0) w

/-- What a caller may count on. -/
structure ResOK (F0 G : Nat → Prop) (T : Fr) (w w' : World) (d : Nat) (ks : List Kd) (r : Tup ks) (v : Value) : Prop where
  rel : RP (T.F F0) T w' (resPV d ks r) v
  bx : ∀ d, T.bx d = none
  tgm : ∀ n b l, T.tg n = some (b, l) → (w.heap.size ≤ b ∨ G b) ∧ b < w'.heap.size
  tgi : ∀ n n' b l l', T.tg n = some (b, l) → T.tg n' = some (b, l') → n = n'

def Returns (G F0 : Nat → Prop) (w : World) (ks : List Kd) (r : Tup ks) (e : Ending) (w' : World) : Prop :=
  ∃ v, e = .returned v ∧ Kept G w w' ∧ ∀ d, ∃ T, ResOK F0 G T w w' d ks r v

def Contract (P : Program) (E : Env) (f : Nat) (x : Tup (E.sig f).args) (r : Tup (E.sig f).res) : Prop :=
  ∀ (w : World) (F0 G : Nat → Prop) (A : Fr) (vs : List Value), ArgsOK E F0 G A w (E.sig f).args x vs → Calls P f vs.toArray w (Returns G F0 w (E.sig f).res r)

section
variable {X : Ctx} {σ : St}

theorem args_sound {A : Fr} {tm : Array Value} {w : World} {H : Hand} {F' : Nat → Prop} (hi : Inv X A σ tm w) (hH : H.OK) (hf : Fits X A w H F') : ∀ {i : Nat} {ks : List Kd} {l : List SV} {h h' : Hand} {x : Tup ks} {vs : List Value},
    handAll σ (argSlots i ks) l h = some h' → h'.Sub H → packAll σ ks l = some x → All2 (RS (X.F A) A w) l vs → All2 (fun (p : Nat × PV) v => RP F' (H.fr A) w p.2 v) (argsOf i ks x) vs
  | i, [], l, h, h', x, vs, h2, h3, h4, h5 => by
    cases h5 with
    | nil => exact .nil
    | cons _ _ => simp [packAll] at h4
  | i, [k], l, h, h', x, vs, h2, h3, h4, h5 => by
    cases h5 with
    | nil => simp [packAll] at h4
    | cons h6 h7 =>
      cases h7 with
      | cons _ _ => simp [packAll] at h4
      | nil =>
        have h4' : k.pack σ _ = some x := h4
        simp only [argSlots, handAll] at h2
        split at h2
        · rename_i h8 h9
          cases h2
          exact .cons (item_sound hi hH hf h9 h3 h4' h6) .nil
        · cases h2
  | i, k :: k' :: ks, l, h, h', x, vs, h2, h3, h4, h5 => by
    cases h5 with
    | nil => simp [packAll] at h4
    | cons h6 h7 =>
      rw [packAll] at h4
      split at h4
      · rename_i x1 x2 hx1 hx2
        cases h4
        simp only [argSlots, handAll] at h2
        split at h2
        · rename_i h8 h9
          exact .cons (item_sound hi hH hf h9 ((handAll_sub h2).trans h3) hx1 h6) (args_sound hi hH hf (i := i + 1) (ks := k' :: ks) (by simpa only [argSlots, handAll] using h2) h3 hx2 h7)
        · cases h2
      · cases h4

theorem res_sound {A : Fr} {tm : Array Value} {w : World} {H : Hand} {F' : Nat → Prop} (hi : Inv X A σ tm w) (hH : H.OK) (hf : Fits X A w H F') {d : Nat} : ∀ {j : Nat} {ks : List Kd} {l : List SV} {h h' : Hand} {x : Tup ks} {vs : List Value},
    handAll σ (resSlots d j ks) l h = some h' → h'.Sub H → packAll σ ks l = some x → All2 (RS (X.F A) A w) l vs → All2 (RS F' (H.fr A) w) (unpackAll d j ks x) vs
  | j, [], l, h, h', x, vs, h2, h3, h4, h5 => by
    cases h5 with
    | nil => exact .nil
    | cons _ _ => simp [packAll] at h4
  | j, [k], l, h, h', x, vs, h2, h3, h4, h5 => by
    cases h5 with
    | nil => simp [packAll] at h4
    | cons h6 h7 =>
      cases h7 with
      | cons _ _ => simp [packAll] at h4
      | nil =>
        have h4' : k.pack σ _ = some x := h4
        simp only [resSlots, handAll] at h2
        split at h2
        · rename_i h8 h9
          cases h2
          exact .cons (item_sound hi hH hf h9 h3 h4' h6) .nil
        · cases h2
  | j, k :: k' :: ks, l, h, h', x, vs, h2, h3, h4, h5 => by
    cases h5 with
    | nil => simp [packAll] at h4
    | cons h6 h7 =>
      rw [packAll] at h4
      split at h4
      · rename_i x1 x2 hx1 hx2
        cases h4
        simp only [resSlots, handAll] at h2
        split at h2
        · rename_i h8 h9
          exact .cons (item_sound hi hH hf h9 ((handAll_sub h2).trans h3) hx1 h6) (res_sound hi hH hf (j := j + 1) (ks := k' :: ks) (by simpa only [resSlots, handAll] using h2) h3 hx2 h7)
        · cases h2
      · cases h4

/-! ### a result's names, moved -/
def Hand.shift (d : Nat) (h : Hand) : Hand := { ren := h.ren.map fun p => (p.1, p.2 + d * 64), pl := h.pl, rb := h.rb.map fun p => (p.1, p.2 + d), pm := h.pm }

theorem tagOf_shift (d j k : Nat) : tagOf 0 j k + d * 64 = tagOf d j k := by unfold tagOf; omega

theorem leaf_shift (d : Nat) : ∀ {own : List Nat} {j k : Nat} {cs : List PC} {h h' : Hand}, leafHand own 0 j k cs h = some h' → leafHand own d j k cs (h.shift d) = some (h'.shift d)
  | own, j, k, [], h, h', e => by simp only [leafHand, Option.some.injEq] at e ⊢; rw [e]
  | own, j, k, c :: r, h, h', e => by
    cases c with
    | slice e1 t xs g =>
      simp only [leafHand] at e ⊢
      cases hm : mem own k with
      | true =>
        simp only [hm, cond_true] at e ⊢
        cases g with
        | own n => have := leaf_shift d e; simpa [Hand.shift, tagOf_shift] using this
        | nil => have := leaf_shift d e; simpa [Hand.shift, tagOf_shift] using this
        | _ => cases e
      | false =>
        simp only [hm, cond_false] at e ⊢
        have := leaf_shift d e; simpa [Hand.shift] using this
    | nilS =>
      simp only [leafHand] at e ⊢
      cases hm : mem own k with
      | true => simp only [hm, cond_true] at e ⊢; have := leaf_shift d e; simpa [Hand.shift, tagOf_shift] using this
      | false => simp only [hm, cond_false] at e ⊢; exact leaf_shift d e
    | _ => simp only [leafHand] at e ⊢; exact leaf_shift d e

theorem hand_shift (d : Nat) {j : Nat} {k : Kd} {s : SV} {h h' : Hand} (e : k.hand σ 0 j s h = some h') : k.hand σ d j s (h.shift d) = some (h'.shift d) := by
  cases k with
  | v t own => simp only [Kd.hand] at e ⊢; exact leaf_shift d e
  | n _ _ => simp only [Kd.hand, Option.some.injEq] at e ⊢; rw [e]
  | f => simp only [Kd.hand, Option.some.injEq] at e ⊢; rw [e]
  | p t =>
    cases s with
    | agg cs => simp only [Kd.hand, Option.some.injEq] at e ⊢; rw [e]
    | one c =>
      cases c with
      | box d' o =>
        simp only [Kd.hand] at e ⊢
        split at e
        · rename_i q
          cases e
          rfl
        · cases e
      | _ => simp only [Kd.hand, Option.some.injEq] at e ⊢; rw [e]
  | b t tid own =>
    cases s with
    | agg cs => simp [Kd.hand] at e
    | one c =>
      cases c with
      | box d' o =>
        cases o with
        | succ o => simp [Kd.hand] at e
        | zero =>
          simp only [Kd.hand] at e ⊢
          split at e
          · rename_i q
            have := leaf_shift d e
            simpa [Hand.shift] using this
          · cases e
      | _ => simp [Kd.hand] at e

theorem res_shift (d : Nat) : ∀ {j : Nat} {ks : List Kd} {l : List SV} {h h' : Hand}, handAll σ (resSlots 0 j ks) l h = some h' → handAll σ (resSlots d j ks) l (h.shift d) = some (h'.shift d)
  | j, [], l, h, h', e => by
    cases l <;> simp only [resSlots, handAll, Option.some.injEq] at e ⊢ <;> rw [e]
  | j, k :: ks, [], h, h', e => by simp only [resSlots, handAll, Option.some.injEq] at e ⊢; rw [e]
  | j, k :: ks, s :: ss, h, h', e => by
    simp only [resSlots, handAll] at e ⊢
    split at e
    · rename_i h1 h2
      rw [hand_shift d h2]
      exact res_shift d e
    · cases e

theorem nodup_shift (c : Nat) : ∀ (l : List Nat), nodup (l.map (· + c)) = nodup l
  | [] => rfl
  | x :: r => by
    simp only [List.map_cons, nodup, nodup_shift c r]
    congr 2
    cases h : mem r x with
    | true => exact mem_iff.2 (List.mem_map.2 ⟨x, mem_iff.1 h, rfl⟩)
    | false =>
      cases h' : mem (r.map (· + c)) (x + c) with
      | false => rfl
      | true =>
        obtain ⟨y, hy, he⟩ := List.mem_map.1 (mem_iff.1 h')
        have : y = x := by omega
        subst this
        rw [mem_iff.2 hy] at h; cases h

theorem ok_shift (d : Nat) {h : Hand} (hk : h.OK) : (h.shift d).OK := by
  have hs : (h.shift d).srcs = h.srcs := by simp [Hand.shift, Hand.srcs, List.filterMap_map, Function.comp_def]
  refine ⟨?_, by rw [hs]; exact hk.src, ?_, ?_, fun x hx => by rw [hs]; exact hk.pl x hx, fun x hx hm => hk.pm x hx (by simpa [Hand.shift, List.map_map, Function.comp_def] using hm)⟩
  · have : (h.shift d).ren.map (·.2) = (h.ren.map (·.2)).map (· + d * 64) := by simp [Hand.shift, List.map_map, Function.comp_def]
    rw [this, nodup_shift]; exact hk.dst
  · have : (h.shift d).rb.map (·.1) = h.rb.map (·.1) := by simp [Hand.shift, List.map_map, Function.comp_def]
    rw [this]; exact hk.b1
  · have : (h.shift d).rb.map (·.2) = (h.rb.map (·.2)).map (· + d) := by simp [Hand.shift, List.map_map, Function.comp_def]
    rw [this, nodup_shift]; exact hk.b2

end
end Go.Sv
