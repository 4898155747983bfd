/- Operations that the model may run in several orders: every order ends as the one that the evaluator takes. -/
import Derived.Test.YtnooginekcnflaaEvY
namespace Go.Sv
open Go
set_option linter.unusedVariables false
set_option linter.unusedSimpArgs false

structure Rec where
  d : Nat
  pv : PV
  bx : Option (TypeId × List PC)

def St.addR (σ : St) (f : Rec) : St := { s := (f.d, f.pv) :: σ.s, b := match f.bx with | some q => (f.d, q) :: σ.b | none => σ.b }

structure Rep (σ0 : St) (recs : List Rec) (S : Nat → Prop) (τ : St) : Prop where
  get : ∀ t, (∀ (q : Nat) f, recs[q]? = some f → S q → f.d ≠ t) → τ.get t = σ0.get t
  got : ∀ (q : Nat) f, recs[q]? = some f → S q → τ.get f.d = f.pv
  ent : ∀ p ∈ τ.s, p ∈ σ0.s ∨ ∃ (q : Nat) (f : Rec), recs[q]? = some f ∧ S q ∧ p = (f.d, f.pv)
  ent0 : ∀ p ∈ σ0.s, p ∈ τ.s
  ent1 : ∀ (q : Nat) f, recs[q]? = some f → S q → (f.d, f.pv) ∈ τ.s

structure RepB (b0 : List (Nat × (TypeId × List PC))) (recs : List Rec) (S : Nat → Prop) (b : List (Nat × (TypeId × List PC))) : Prop where
  get : ∀ t, (∀ (q : Nat) f, recs[q]? = some f → S q → f.bx ≠ none → f.d ≠ t) → getB b t = getB b0 t
  got : ∀ (q : Nat) f v, recs[q]? = some f → S q → f.bx = some v → getB b f.d = some v
  ent : ∀ p ∈ b, p ∈ b0 ∨ ∃ (q : Nat) (f : Rec) (v : TypeId × List PC), recs[q]? = some f ∧ S q ∧ f.bx = some v ∧ p = (f.d, v)

def Apart (recs : List Rec) : Prop := ∀ (q q' : Nat) (f f' : Rec), recs[q]? = some f → recs[q']? = some f' → f.d = f'.d → q = q'

structure Eqv (σ τ : St) : Prop where
  get : ∀ t, σ.get t = τ.get t
  box : ∀ t, getB σ.b t = getB τ.b t
  ent : ∀ p ∈ τ.s, p ∈ σ.s

theorem Inv.eqv {X : Ctx} {A : Fr} {σ τ : St} {tm : Array Value} {w : World} (h : Inv X A σ tm w) (e : Eqv σ τ) : Inv X A τ tm w :=
  ⟨h.sz, h.kept, h.glob, fun i => by rw [← e.get]; exact h.slot i, fun d tid cs hd => h.box d tid cs (by rw [e.box]; exact hd), h.good, fun p hp => h.ent p (e.ent p hp)⟩

theorem getS_cons (j : Nat) (v : PV) (l : List (Nat × PV)) (i : Nat) : getS ((j, v) :: l) i = if i = j then v else getS l i := by
  simp only [getS]
  by_cases h : i = j
  · subst h; simp [Nat.beq_refl]
  · have : Nat.beq j i = false := by
      cases hb : Nat.beq j i with
      | false => rfl
      | true => exact absurd (Nat.eq_of_beq_eq_true hb).symm h
    simp [this, h]
theorem getB_cons (j : Nat) (v : TypeId × List PC) (l : List (Nat × (TypeId × List PC))) (i : Nat) : getB ((j, v) :: l) i = if i = j then some v else getB l i := by
  simp only [getB]
  by_cases h : i = j
  · subst h; simp [Nat.beq_refl]
  · have : Nat.beq j i = false := by
      cases hb : Nat.beq j i with
      | false => rfl
      | true => exact absurd (Nat.eq_of_beq_eq_true hb).symm h
    simp [this, h]

theorem Rep.add {σ0 τ : St} {recs : List Rec} {S : Nat → Prop} (h : Rep σ0 recs S τ) (ha : Apart recs) {i : Nat} {f : Rec} (hf : recs[i]? = some f) (hi : ¬ S i) : Rep σ0 recs (fun q => S q ∨ q = i) (τ.addR f) := by
  have hg : ∀ t, (τ.addR f).get t = if t = f.d then f.pv else τ.get t := fun t => getS_cons _ _ _ _
  refine ⟨fun t ht => ?_, fun q g hq hS => ?_, fun p hp => ?_, fun p hp => List.mem_cons_of_mem _ (h.ent0 p hp), fun q g hq hS => ?_⟩
  · rw [hg, if_neg (fun e => ht i f hf (.inr rfl) e.symm)]
    exact h.get t fun q g hq hS => ht q g hq (.inl hS)
  · rw [hg]
    rcases hS with hS | rfl
    · rw [if_neg (fun e => hi (ha q i g f hq hf e ▸ hS))]; exact h.got q g hq hS
    · rw [hf] at hq; cases hq; simp
  · rcases List.mem_cons.1 hp with rfl | hp
    · exact .inr ⟨i, f, hf, .inr rfl, rfl⟩
    · rcases h.ent p hp with h1 | ⟨q, g, h1, h2, h3⟩
      · exact .inl h1
      · exact .inr ⟨q, g, h1, .inl h2, h3⟩
  · rcases hS with hS | rfl
    · exact List.mem_cons_of_mem _ (h.ent1 q g hq hS)
    · rw [hf] at hq; cases hq; exact List.mem_cons_self ..

theorem RepB.add {b0 : List (Nat × (TypeId × List PC))} {σ : St} {recs : List Rec} {S : Nat → Prop} (h : RepB b0 recs S σ.b) (ha : Apart recs) {i : Nat} {f : Rec} (hf : recs[i]? = some f) (hi : ¬ S i) : RepB b0 recs (fun q => S q ∨ q = i) (σ.addR f).b := by
  cases hb : f.bx with
  | none =>
    have e : (σ.addR f).b = σ.b := by simp [St.addR, hb]
    rw [e]
    refine ⟨fun t ht => h.get t fun q g hq hS => ht q g hq (.inl hS), fun q g v hq hS hv => ?_, fun p hp => ?_⟩
    · rcases hS with hS | rfl
      · exact h.got q g v hq hS hv
      · rw [hf] at hq; cases hq; rw [hb] at hv; cases hv
    · rcases h.ent p hp with h1 | ⟨q, g, v, h1, h2, h3⟩
      · exact .inl h1
      · exact .inr ⟨q, g, v, h1, .inl h2, h3⟩
  | some v0 =>
    have e : (σ.addR f).b = (f.d, v0) :: σ.b := by simp [St.addR, hb]
    rw [e]
    refine ⟨fun t ht => ?_, fun q g v hq hS hv => ?_, fun p hp => ?_⟩
    · rw [getB_cons, if_neg (fun e => ht i f hf (.inr rfl) (by rw [hb]; simp) e.symm)]
      exact h.get t fun q g hq hS => ht q g hq (.inl hS)
    · rw [getB_cons]
      rcases hS with hS | rfl
      · rw [if_neg (fun e => hi (ha q i g f hq hf e ▸ hS))]; exact h.got q g v hq hS hv
      · rw [hf] at hq; cases hq; rw [hb] at hv; cases hv; simp
    · rcases List.mem_cons.1 hp with rfl | hp
      · exact .inr ⟨i, f, v0, hf, .inr rfl, hb, rfl⟩
      · rcases h.ent p hp with h1 | ⟨q, g, v, h1, h2, h3⟩
        · exact .inl h1
        · exact .inr ⟨q, g, v, h1, .inl h2, h3⟩

/-! ### what stands before what -/
def Closed (ops : Array Oper) (L : Nat → Prop) : Prop := ∀ k o, ops[k]? = some o → L k → ∀ e ∈ o.after, Region.binds .any e = true → L e.on

theorem befores_spec : ∀ (l : List Oper) (acc : List Nat), (befores l acc).length = acc.length + l.length ∧ (∀ i, i < acc.length → (befores l acc).getD i 0 = acc.getD i 0) ∧
    ∀ i o, l[i]? = some o → (befores l acc).getD (acc.length + i) 0 = o.after.toList.foldl (fun s e => bif Region.binds .any e then s ||| 2 ^ e.on ||| ((befores l acc).take (acc.length + i)).getD e.on 0 else s) 0
  | [], acc => ⟨by simp [befores], fun i _ => rfl, fun i o h => by simp at h⟩
  | o :: r, acc => by
    have ih := befores_spec r (acc ++ [o.after.toList.foldl (fun s e => bif Region.binds .any e then s ||| 2 ^ e.on ||| acc.getD e.on 0 else s) 0])
    simp only [befores]
    generalize hm : o.after.toList.foldl (fun s e => bif Region.binds .any e then s ||| 2 ^ e.on ||| acc.getD e.on 0 else s) 0 = m at ih ⊢
    obtain ⟨h1, h2, h3⟩ := ih
    refine ⟨by rw [h1]; simp; omega, fun i hi => ?_, fun i o' ho' => ?_⟩
    · rw [h2 i (by simp; omega)]
      simp only [List.getD_eq_getElem?_getD]
      rw [List.getElem?_append_left hi]
    · cases i with
      | zero =>
        simp only [List.getElem?_cons_zero, Option.some.injEq] at ho'
        subst ho'
        rw [Nat.add_zero, h2 acc.length (by simp)]
        have e1 : (acc ++ [m]).getD acc.length 0 = m := by simp [List.getD_eq_getElem?_getD]
        rw [e1]
        refine hm.symm.trans ?_
        congr 1
        funext s e
        congr 2
        simp only [List.getD_eq_getElem?_getD, List.getElem?_take]
        by_cases he : e.on < acc.length
        · rw [if_pos he]
          have := h2 e.on (by simp; omega)
          simp only [List.getD_eq_getElem?_getD] at this
          rw [this, List.getElem?_append_left he]
        · rw [if_neg he, List.getElem?_eq_none (by omega)]
      | succ i =>
        have := h3 i o' (by simpa using ho')
        rw [show acc.length + (i + 1) = (acc ++ [m]).length + i by simp; omega]
        exact this

theorem fold_bit (g : Nat → Nat) (j : Nat) : ∀ (l : List Edge) (s : Nat), Nat.testBit (l.foldl (fun s e => bif Region.binds .any e then s ||| 2 ^ e.on ||| g e.on else s) s) j = true →
    Nat.testBit s j = true ∨ ∃ e ∈ l, Region.binds .any e = true ∧ (e.on = j ∨ Nat.testBit (g e.on) j = true)
  | [], s, h => .inl h
  | e :: l, s, h => by
    rcases fold_bit g j l _ h with h1 | ⟨e', h1, h2⟩
    · cases hb : Region.binds .any e with
      | false => simp only [hb, cond_false] at h1; exact .inl h1
      | true =>
        simp only [hb, cond_true, Nat.testBit_or, Bool.or_eq_true, Nat.testBit_two_pow, decide_eq_true_eq] at h1
        rcases h1 with (h1 | h1) | h1
        · exact .inl h1
        · exact .inr ⟨e, List.mem_cons_self .., hb, .inl h1⟩
        · exact .inr ⟨e, List.mem_cons_self .., hb, .inr h1⟩
    · exact .inr ⟨e', List.mem_cons_of_mem _ h1, h2⟩

theorem edges_spec (l : List Oper) : ∀ (n : Nat), edgesOK n l = true → ∀ (i : Nat) (o : Oper), l[i]? = some o → ∀ e ∈ o.after, Region.binds .any e = true → e.on < n + i := by
  induction l with
  | nil => intro n h i o hi; simp at hi
  | cons o r ih =>
    intro n h i o' hi e he hb
    rw [edgesOK, Bool.and_eq_true] at h
    cases i with
    | zero =>
      rw [List.getElem?_cons_zero, Option.some.injEq] at hi
      subst hi
      have := List.all_eq_true.1 h.1 e (Array.mem_toList_iff.2 he)
      rw [hb, Bool.not_true, Bool.false_or] at this
      exact of_decide_eq_true this
    | succ i =>
      rw [List.getElem?_cons_succ] at hi
      have := ih (n + 1) h.2 i o' hi e he hb
      omega

/-- What the bits say. -/
theorem bit_before {ops : Array Oper} (hE : edgesOK 0 ops.toList = true) : ∀ (i : Nat) (o : Oper) (j : Nat), ops[i]? = some o → Nat.testBit ((befores ops.toList []).getD i 0) j = true →
    j < i ∧ ∀ (L : Nat → Prop), Closed ops L → (∀ e ∈ o.after, Region.binds .any e = true → L e.on) → L j := by
  intro i
  induction i using Nat.strongRecOn with
  | _ i ih =>
    intro o j ho hbit
    have ho' : ops.toList[i]? = some o := by rw [Array.getElem?_toList]; exact ho
    have hspec := (befores_spec ops.toList []).2.2 i o ho'
    simp only [List.length_nil, Nat.zero_add] at hspec
    rw [hspec] at hbit
    rcases fold_bit (fun k => ((befores ops.toList []).take i).getD k 0) j _ 0 hbit with h1 | ⟨e, he, hb, h1⟩
    · simp at h1
    · have he' : e ∈ o.after := by simpa using he
      have hlt := edges_spec ops.toList 0 hE i o ho' e he' hb
      rw [Nat.zero_add] at hlt
      rcases h1 with rfl | h1
      · exact ⟨hlt, fun L _ hL => hL e he' hb⟩
      · have hlen : i < ops.size := (Array.getElem?_eq_some_iff.1 ho).1
        have h2 : Nat.testBit ((befores ops.toList []).getD e.on 0) j = true := by
          simp only [List.getD_eq_getElem?_getD, List.getElem?_take, if_pos hlt] at h1 ⊢
          exact h1
        have hoe : ops[e.on]? = some ops[e.on] := Array.getElem?_eq_getElem (by omega)
        obtain ⟨h3, h4⟩ := ih e.on hlt _ j hoe h2
        exact ⟨by omega, fun L hC hL => h4 L hC (hC e.on _ hoe (hL e he' hb))⟩

theorem freeLen_spec : ∀ (l : List Nat) (k acc : Nat), acc ≤ k → acc ≤ freeLen l k acc ∧ freeLen l k acc ≤ k + l.length ∧ ∀ q, freeLen l k acc ≤ k + q → ∀ b, l[q]? = some b → b = 2 ^ (k + q) - 1
  | [], k, acc, h => ⟨Nat.le_refl _, by simp [freeLen]; omega, fun q _ b hb => by simp at hb⟩
  | b0 :: r, k, acc, h => by
    simp only [freeLen]
    cases hb : Nat.beq b0 (2 ^ k - 1) with
    | true =>
      simp only [cond_true]
      obtain ⟨h1, h2, h3⟩ := freeLen_spec r (k + 1) acc (by omega)
      refine ⟨h1, by simp; omega, fun q hq b hbq => ?_⟩
      cases q with
      | zero => simp at hbq; subst hbq; exact Nat.eq_of_beq_eq_true hb
      | succ q => rw [show k + (q + 1) = k + 1 + q by omega]; exact h3 q (by omega) b (by simpa using hbq)
    | false =>
      simp only [cond_false]
      obtain ⟨h1, h2, h3⟩ := freeLen_spec r (k + 1) (k + 1) (by omega)
      refine ⟨by omega, by simp; omega, fun q hq b hbq => ?_⟩
      cases q with
      | zero => omega
      | succ q => rw [show k + (q + 1) = k + 1 + q by omega]; exact h3 q (by omega) b (by simpa using hbq)

theorem idxN_some {s : Nat} : ∀ {l : List Nat} {k i : Nat}, idxN s l k = some i → k ≤ i ∧ l[i - k]? = some s
  | x :: r, k, i, h => by
    simp only [idxN] at h
    cases hb : Nat.beq x s with
    | true =>
      simp only [hb, cond_true, Option.some.injEq] at h
      subst h
      simp [Nat.eq_of_beq_eq_true hb]
    | false =>
      simp only [hb, cond_false] at h
      obtain ⟨h1, h2⟩ := idxN_some h
      refine ⟨by omega, ?_⟩
      rw [show i - k = (i - (k + 1)) + 1 by omega]; simpa using h2
theorem idxN_none {s : Nat} : ∀ {l : List Nat} {k : Nat}, idxN s l k = none → s ∉ l
  | [], k, h => by simp
  | x :: r, k, h => by
    simp only [idxN] at h
    cases hb : Nat.beq x s with
    | true => simp [hb] at h
    | false =>
      simp only [hb, cond_false] at h
      have := idxN_none h
      intro hm
      rcases List.mem_cons.1 hm with rfl | hm
      · rw [Nat.beq_refl] at hb; cases hb
      · exact this hm

theorem nodup_idx : ∀ {l : List Nat} {i j x : Nat}, nodup l = true → l[i]? = some x → l[j]? = some x → i = j
  | y :: r, i, j, x, hn, hi, hj => by
    obtain ⟨h1, h2⟩ := nodup_cons hn
    cases i with
    | zero =>
      cases j with
      | zero => rfl
      | succ j =>
        simp at hi hj
        subst hi
        exact absurd (List.mem_of_getElem? hj) h1
    | succ i =>
      cases j with
      | zero =>
        simp at hi hj
        subst hj
        exact absurd (List.mem_of_getElem? hi) h1
      | succ j => exact congrArg (· + 1) (nodup_idx (x := x) h2 (by simpa using hi) (by simpa using hj))

theorem countP_lt {p q : Nat → Bool} : ∀ {l : List Nat}, (∀ x ∈ l, p x = true → q x = true) → ∀ {i : Nat}, i ∈ l → q i = true → p i = false → l.countP p < l.countP q
  | x :: r, h, i, hi, hq, hp => by
    have hle : r.countP p ≤ r.countP q := List.countP_mono_left fun y hy hpy => h y (List.mem_cons_of_mem _ hy) hpy
    rw [List.countP_cons, List.countP_cons]
    rcases List.mem_cons.1 hi with rfl | hi
    · simp [hq, hp]; omega
    · have := countP_lt (l := r) (fun y hy => h y (List.mem_cons_of_mem _ hy)) hi hq hp
      have hx := h x (List.mem_cons_self ..)
      by_cases h1 : p x = true
      · simp [h1, hx h1]; omega
      · simp [h1]; split <;> omega

end Go.Sv
