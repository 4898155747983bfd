/- What a law's inputs tell, and how a contract becomes the law's row. -/
import Derived.Test.YtnooginekcnflaaEvFb
import Derived.Deep.Slices
import Derived.ChangeArms
import Derived.OpenShut
import Derived.DataReads
namespace Go.Sv
open Go Go.ChangeShapes Go.WideShapes Go.Deep Go.RowKit
set_option linter.unusedVariables false
set_option linter.unusedSimpArgs false

def parts (rec : TypeId → Ty → Bool) (P : Program) : List (Nat × TypeId) → Nat → Ty → Bool
  | [q], off, u => Nat.beq q.1 off && (Nat.beq (P.cellsOf q.2) u.sz && rec q.2 u)
  | q :: q' :: r, off, .pair a b => Nat.beq q.1 off && (Nat.beq (P.cellsOf q.2) a.sz && (rec q.2 a && parts rec P (q' :: r) (off + a.sz) b))
  | _, _, _ => false

/-- A type of the program is told as u. -/
def tyIs (P : Program) : Nat → TypeId → Ty → Bool
  | 0, _, _ => false
  | d + 1, t, u =>
    match P.underlying t with
    | some .bool => (match u with | .bool => true | _ => false)
    | some (.int k') => (match u with | .int k => decide (k = k') | _ => false)
    | some .string => (match u with | .str => true | _ => false)
    | some (.slice e') => (match u with | .slice e u => Nat.beq e e' && (Nat.beq (P.cellsOf e) u.sz && tyIs P d e u) | _ => false)
    | some (.struct fs) => u.isPair && Nat.beq (P.cellsOf t) u.sz && parts (tyIs P d) P (fs.toList.map fun f => (f.offset, f.type)) 0 u
    | some (.array n e) => u.isPair && Nat.beq (P.cellsOf t) u.sz && parts (tyIs P d) P ((List.range n).map fun i => (i * P.cellsOf e, e)) 0 u
    | _ => false

/-- What the program's own values keep. -/
def Ty.wf : (u : Ty) → u.den → Prop
  | .bool, _ => True
  | .int k, n => (Lit.int k n).wf = true
  | .str, s => s.size ≤ maxLen
  | .fn, _ => True
  | .slice _ u, xs => xs.length ≤ maxLen ∧ ∀ x ∈ xs, u.wf x
  | .pair a b, x => a.wf x.1 ∧ b.wf x.2

section
variable {H : Type} {enc : TypeId × Value → H} {P : Program} {w : World} {base : Nat} {spare : Nat → Bool} {held : Bool}

theorem parts_cl {rec : TypeId → Ty → Bool} {cs : List Value} (hrec : ∀ t u, rec t u = true → ∀ cs' fuel x, DataW.trod enc P w base spare held fuel t cs' = some x → ∃ y : u.den, Cl (fun _ => False) w u y cs' ∧ u.wf y) :
    ∀ (qs : List (Nat × TypeId)) (off : Nat) (u : Ty), parts rec P qs off u = true → cs.length = off + u.sz → (∀ q ∈ qs, ∃ fuel x, DataW.trod enc P w base spare held fuel q.2 ((cs.drop q.1).take (P.cellsOf q.2)) = some x) → ∃ y : u.den, Cl (fun _ => False) w u y (cs.drop off) ∧ u.wf y
  | [], off, u, h, _, _ => by simp [parts] at h
  | [q], off, u, h, hl, hq => by
    simp only [parts, Bool.and_eq_true] at h
    obtain ⟨h1, h2, h3⟩ := h
    obtain ⟨fuel, x, hx⟩ := hq q (List.mem_cons_self ..)
    have e1 := Nat.eq_of_beq_eq_true h1
    have e2 := Nat.eq_of_beq_eq_true h2
    rw [e1, e2, List.take_of_length_le (by simp; omega)] at hx
    exact hrec _ _ h3 _ fuel x hx
  | q :: q' :: r, off, .pair a b, h, hl, hq => by
    simp only [parts, Bool.and_eq_true] at h
    obtain ⟨h1, h2, h3, h4⟩ := h
    obtain ⟨fuel, x, hx⟩ := hq q (List.mem_cons_self ..)
    have e1 := Nat.eq_of_beq_eq_true h1
    have e2 := Nat.eq_of_beq_eq_true h2
    rw [e1, e2] at hx
    obtain ⟨y, hy, hwf⟩ := hrec _ _ h3 _ fuel x hx
    simp only [Ty.sz] at hl
    obtain ⟨z, hz, hzw⟩ := parts_cl hrec (q' :: r) (off + a.sz) b h4 (by omega) (fun p hp => hq p (List.mem_cons_of_mem _ hp))
    refine ⟨(y, z), ?_, hwf, hzw⟩
    rw [Cl]
    exact ⟨(cs.drop off).take a.sz, cs.drop (off + a.sz), by rw [← List.drop_drop]; exact (List.take_append_drop _ _).symm, hy, hz⟩
  | q :: q' :: r, off, .bool, h, _, _ | q :: q' :: r, off, .int _, h, _, _ | q :: q' :: r, off, .str, h, _, _ | q :: q' :: r, off, .fn, h, _, _ | q :: q' :: r, off, .slice _ _, h, _, _ => by simp [parts] at h

theorem pick_all {α : Type} {p : Nat → α → Prop} (n : Nat) (h : ∀ i, i < n → ∃ x, p i x) : ∃ l : List α, l.length = n ∧ ∀ i x, l[i]? = some x → p i x := by
  induction n with
  | zero => exact ⟨[], rfl, fun i x hx => by simp at hx⟩
  | succ n ih =>
    obtain ⟨l, h1, h2⟩ := ih fun i hi => h i (by omega)
    obtain ⟨x, hx⟩ := h n (by omega)
    refine ⟨l ++ [x], by simp [h1], fun i y hy => ?_⟩
    by_cases hi : i < l.length
    · rw [List.getElem?_append_left hi] at hy; exact h2 i y hy
    · rw [List.getElem?_append_right (by omega)] at hy
      have := (List.getElem?_eq_some_iff.1 hy).1
      simp only [List.length_singleton] at this
      have e : i = n := by omega
      subst e
      rw [h1, Nat.sub_self] at hy
      simp at hy
      subst hy; exact hx

/-- An input reads as a told value. -/
theorem trod_cl : ∀ (d : Nat) (t : TypeId) (u : Ty), tyIs P d t u = true → ∀ (cs : List Value) (fuel : Nat) (x : DataW H × List MemPlace), DataW.trod enc P w base spare held fuel t cs = some x → ∃ y : u.den, Cl (fun _ => False) w u y cs ∧ u.wf y
  | 0, t, u, h, _, _, _, _ => by simp [tyIs] at h
  | d + 1, t, u, h, cs, fuel, x, hx => by
    unfold tyIs at h
    split at h
    · rename_i hu
      split at h <;> try (cases h; done)
      cases fuel with
      | zero => simp [DataW.trod] at hx
      | succ n =>
        unfold DataW.trod at hx
        rw [hu] at hx
        split at hx <;> try (simp at hx; done)
        all_goals try (rename_i h1; cases h1; done)
        all_goals
          first
            | (exact ⟨_, by rw [Cl], trivial⟩)
            | (rename_i h1 _; cases h1; done)
    · rename_i k' hu
      split at h <;> try (cases h; done)
      rename_i k
      have hk := of_decide_eq_true h
      subst hk
      cases fuel with
      | zero => simp [DataW.trod] at hx
      | succ n =>
        unfold DataW.trod at hx
        rw [hu] at hx
        split at hx <;> first
          | (simp at hx; done)
          | (rename_i h1; cases h1; done)
          | (rename_i h1 _; cases h1; done)
          | skip
        all_goals
          rename_i h1
          cases h1
          split at hx
          · rename_i hc
            obtain ⟨rfl, hwf⟩ := hc
            exact ⟨_, by rw [Cl], hwf⟩
          · cases hx
    · rename_i hu
      split at h <;> try (cases h; done)
      cases fuel with
      | zero => simp [DataW.trod] at hx
      | succ n =>
        unfold DataW.trod at hx
        rw [hu] at hx
        split at hx <;> first
          | (simp at hx; done)
          | (rename_i h1; cases h1; done)
          | (rename_i h1 _; cases h1; done)
          | skip
        all_goals
          split at hx
          · rename_i hc
            exact ⟨_, by rw [Cl], hc⟩
          · cases hx
    · rename_i e' hu
      split at h <;> try (cases h; done)
      rename_i e u
      simp only [Bool.and_eq_true] at h
      obtain ⟨h1, h2, h3⟩ := h
      have e1 := Nat.eq_of_beq_eq_true h1
      subst e1
      have e2 := Nat.eq_of_beq_eq_true h2
      rcases open_slice hu hx with ⟨rfl, _⟩ | ⟨a, len, cap, m, n, D, Pl, rfl, _, hl, hm, hmm, _, hel⟩
      · exact ⟨[], by rw [Cl]; exact ⟨none, 0, rfl, Nat.le_refl _, .inl rfl⟩, by simp [Ty.wf]⟩
      · have hlm : len ≤ m := by rw [hmm]; split <;> omega
        obtain ⟨l, k1, k2⟩ := pick_all (p := fun i (y : u.den) => (∃ ds, Cl (fun _ => False) w u y ds ∧ ∀ j v, ds[j]? = some v → w.cell? (a.add (i * u.sz + j)) = some v) ∧ u.wf y) len (fun i hi => by
          obtain ⟨cs', c1, c2⟩ := hel i (by omega)
          obtain ⟨y, y1, y2⟩ := trod_cl d e u h3 cs' n _ c2
          obtain ⟨_, c3, c4⟩ := World.cells?_some c1
          refine ⟨y, ⟨cs', y1, fun j v hj => ?_⟩, y2⟩
          have hjl := (List.getElem?_eq_some_iff.1 hj).1
          have := c4 j (by omega)
          rw [add_add] at this
          rw [← e2, this]; exact hj)
        refine ⟨l, ?_, by rw [k1]; omega, fun y hy => ?_⟩
        · rw [Cl]
          refine ⟨some a, cap, by rw [k1], by omega, .inr ⟨a, rfl, fun h => h, fun i y hy => (k2 i y hy).1⟩⟩
        · obtain ⟨i, hi⟩ := List.getElem?_of_mem hy
          exact (k2 i y hi).2
    · rename_i fs hu
      simp only [Bool.and_eq_true] at h
      obtain ⟨xs, n, _, _, hcl, hxl, hf⟩ := DataW.trod_struct hu hx
      have := parts_cl (cs := cs) (fun t u h => trod_cl d t u h) _ 0 u h.2 (by rw [hcl, Nat.eq_of_beq_eq_true h.1.2, Nat.zero_add]) (fun q hq => by
        obtain ⟨f, hf1, rfl⟩ := List.mem_map.1 hq
        obtain ⟨i, hi⟩ := List.getElem?_of_mem hf1
        have hi' : fs[i]? = some f := by rw [← Array.getElem?_toList]; exact hi
        have h1 := hf i f hi'
        have hlt : i < xs.length := by
          have := (Array.getElem?_eq_some_iff.1 hi').1; omega
        rw [List.getElem?_eq_getElem hlt] at h1
        exact ⟨n, _, h1⟩)
      simpa using this
    · rename_i n e hu
      simp only [Bool.and_eq_true] at h
      obtain ⟨xs, m, _, _, hcl, hxl, hf⟩ := DataW.trod_array hu hx
      have := parts_cl (cs := cs) (fun t u h => trod_cl d t u h) _ 0 u h.2 (by rw [hcl, Nat.eq_of_beq_eq_true h.1.2, Nat.zero_add]) (fun q hq => by
        obtain ⟨i, hi, rfl⟩ := List.mem_map.1 hq
        have hlt := List.mem_range.1 hi
        have h1 := hf i hlt
        rw [List.getElem?_eq_getElem (by omega)] at h1
        exact ⟨m, _, h1⟩)
      simpa using this
    · cases h

theorem okWide_array {n : Nat} {e t : TypeId} {r : Reach} {b : Nat} {v : Value} (ht : P.underlying t = some (.array n e)) (h : Value.okWide P w r b t v) : ∃ cs, v = .agg cs ∧ cs.size = P.cellsOf t := by
  simp only [Value.okWide, ht] at h
  obtain ⟨cs, h1, h2, _⟩ := h
  exact ⟨cs, h1, h2⟩

/-- The frame of a call from outside: nobody's rows, nobody's boxes. -/
def Fr.none : Fr := ⟨fun _ => Option.none, fun _ => Option.none⟩

/-- An argument as it is told. -/
theorem arg_rel {i d : Nat} {t : TypeId} {u : Ty} {r : Reach} {b : Nat} {v : Value} {dd : DataW H} {ps : List MemPlace} (h : tyIs P d t u = true) (hok : Value.okWide P w r b t v) (ht : DataW.Trod enc P w base spare held t v dd ps) :
    ∃ y : u.den, RS (fun _ => False) Fr.none w (Kd.unpack i 0 (.v u []) y) v ∧ u.wf y := by
  obtain ⟨fuel, hf⟩ := ht
  obtain ⟨y, hy, hwf⟩ := trod_cl d t u h _ _ _ hf
  refine ⟨y, ?_, hwf⟩
  have hc := hy.toPC (A := Fr.none)
  have agg : u.isPair = true → (∃ cs, v = .agg cs) → RS (fun _ => False) Fr.none w (Kd.unpack i 0 (.v u []) y) v := fun hp ⟨cs, hv⟩ => by
    subst hv
    simp only [Kd.unpack, hp, cond_true, leafs_none]
    exact ⟨cs.toList, by simp, by simpa [Value.cells] using hc⟩
  have one : u.isPair = false → v.oneCell' = true → RS (fun _ => False) Fr.none w (Kd.unpack i 0 (.v u []) y) v := fun hp hv => by
    rw [cells_of_one hv] at hc
    simp only [Kd.unpack, hp, cond_false, leafs_none]
    generalize u.toPC y = L at hc
    cases hc with
    | cons h0 ht => cases ht; exact h0
  cases d with
  | zero => simp [tyIs] at h
  | succ d =>
    unfold tyIs at h
    split at h
    · rename_i hu
      split at h <;> try (cases h; done)
      obtain ⟨x, rfl⟩ := okWide_bool hu hok
      exact one rfl rfl
    · rename_i k hu
      split at h <;> try (cases h; done)
      obtain ⟨x, rfl⟩ := okWide_int hu hok
      exact one rfl rfl
    · rename_i hu
      split at h <;> try (cases h; done)
      obtain ⟨x, rfl⟩ := okWide_string hu hok
      exact one rfl rfl
    · rename_i hu
      split at h <;> try (cases h; done)
      obtain ⟨a, l, c, rfl⟩ := okWide_slice hu hok
      exact one rfl rfl
    · rename_i hu
      simp only [Bool.and_eq_true] at h
      obtain ⟨cs, rfl, _⟩ := okWide_struct hu hok
      exact agg h.1.1 ⟨cs, rfl⟩
    · rename_i hu
      simp only [Bool.and_eq_true] at h
      obtain ⟨cs, rfl, _⟩ := okWide_array hu hok
      exact agg h.1.1 ⟨cs, rfl⟩
    · cases h

/-- A call from outside. -/
theorem law_calls {E : Env} (hE : EnvOK P E) (hg : ∀ g, E.glob g = Option.none) {k f : Nat} {x : Tup (E.sig f).args} {r : Tup (E.sig f).res} (hrun : run E k f x = some r) {vs : List Value}
    (hrel : All2 (fun (p : Nat × PV) v => RP (fun _ => False) Fr.none w p.2 v) (argsOf 0 (E.sig f).args x) vs) :
    Calls P f vs.toArray w fun e w' => ∃ v, e = .returned v ∧ Below w.heap.size w w' ∧ ∃ (F : Nat → Prop) (T : Fr), RP F T w' (resPV 0 (E.sig f).res r) v := by
  have hcon := (run_sound hE k f x r hrun).2
  have hF : ∀ b, ¬ Fr.none.F (fun _ => False) b := fun b hb => by
    rcases hb with hb | ⟨d, hb⟩ | ⟨n, l, hb⟩
    · exact hb
    · cases hb
    · cases hb
  have S : Step (fun _ => False) (Fr.none.F fun _ => False) w w := ⟨fun _ _ _ => rfl, fun b hb => (hF b hb).elim⟩
  refine (hcon w (fun _ => False) (fun _ => False) Fr.none vs ⟨?_, fun _ => rfl, fun n b l h => (by cases h), fun n n' b l l' h => (by cases h), fun b h => h.elim, fun g e u n h => (by rw [hg] at h; cases h)⟩).mono fun e w' hret => ?_
  · refine forall2_imp hrel fun p v _ hp => RP.step S ?_ hp
    cases p.2 with
    | sv s => exact fun c _ => (Ext.refl _ w).stays c
    | tup l => exact fun s _ c _ => (Ext.refl _ w).stays c
    | _ => trivial
  · obtain ⟨v, rfl, hk, hres⟩ := hret
    obtain ⟨T, hT⟩ := hres 0
    exact ⟨v, rfl, ⟨hk.os, hk.tape, hk.output, hk.size, fun b hb => hk.block b hb fun h => h⟩, _, T, hT.rel⟩

end
end Go.Sv
