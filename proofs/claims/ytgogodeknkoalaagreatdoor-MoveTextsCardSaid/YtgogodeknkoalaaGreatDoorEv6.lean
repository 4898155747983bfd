/- Calls from outside where package-level variables hold what the program's text lays; strings.Trim by the shelf's contract. -/
import Derived.Test.YtgogodeknkoalaaGreatDoorEv5
import Derived.LaidMore
import Derived.FnData
import Derived.Lib.SlTrimSet
namespace Go.Sv
open Go Go.ChangeShapes Go.WideShapes Go.Deep Go.RowKit
set_option linter.unusedVariables false
set_option linter.unusedSimpArgs false
section
variable {P : Program} {w : World}
/-- A call from outside, where the variables that are read hold what they should. -/
theorem law_calls_g {E : Env} (hE : EnvOK P E) (hG : GlobOK E (fun _ => False) w) {k f : Nat} {x : Tup (E.sig f).args} {r : Tup (E.sig f).res} (hrun : run E k f x = some r) {vs : List Value}
    (hrel : All2 (fun (p : Nat × PV) v => RP (fun _ => False) Fr.none w p.2 v) (argsOf 0 (E.sig f).args x) vs) :
    Calls P f vs.toArray w fun e w' => ∃ v, e = .returned v ∧ Below w.heap.size w w' ∧ ∃ (F : Nat → Prop) (T : Fr), RP F T w' (resPV 0 (E.sig f).res r) v := by
  have hcon := (run_sound hE k f x r hrun).2
  have hF : ∀ b, ¬ Fr.none.F (fun _ => False) b := fun b hb => by
    rcases hb with hb | ⟨d, hb⟩ | ⟨n, l, hb⟩
    · exact hb
    · cases hb
    · cases hb
  have S : Step (fun _ => False) (Fr.none.F fun _ => False) w w := ⟨fun _ _ _ => rfl, fun b hb => (hF b hb).elim⟩
  refine (hcon w (fun _ => False) (fun _ => False) Fr.none vs ⟨?_, fun _ => rfl, fun n b l h => (by cases h), fun n n' b l l' h => (by cases h), fun b h => h.elim, hG.step S⟩).mono fun e w' hret => ?_
  · refine forall2_imp hrel fun p v _ hp => RP.step S ?_ hp
    cases p.2 with
    | sv s => exact fun c _ => (Ext.refl _ w).stays c
    | tup l => exact fun s _ c _ => (Ext.refl _ w).stays c
    | _ => trivial
  · obtain ⟨v, rfl, hk, hres⟩ := hret
    obtain ⟨T, hT⟩ := hres 0
    exact ⟨v, rfl, ⟨hk.os, hk.tape, hk.output, hk.size, fun b hb => hk.block b hb fun h => h⟩, _, T, hT.rel⟩
/-- A row of texts that a variable holds. -/
theorem glob_texts {g : Nat} {e : TypeId} {ws : List ByteArray} {n : Nat} (hn : ws.length = n) (h : ∀ (i : Nat) (x : ByteArray), ws[i]? = some x → w.cell? ⟨g, i, none⟩ = some (.string x)) : Cl (fun _ => False) w (.slice e .str) ws [.slice (some ⟨g, 0, none⟩) n n] := by
  rw [Cl]
  refine ⟨some ⟨g, 0, none⟩, n, by rw [hn], by omega, .inr ⟨_, rfl, fun h => h, fun i x hx => ⟨[.string x], by rw [Cl], fun j v hj => ?_⟩⟩⟩
  have hj0 : j = 0 := by
    have := (List.getElem?_eq_some_iff.1 hj).1
    simp at this; exact this
  subst hj0
  simp at hj
  subst hj
  have := h i x hx
  have e : (⟨g, 0, none⟩ : Addr).add (i * Ty.str.sz + 0) = ⟨g, i, none⟩ := by simp [Addr.add, Ty.sz]; exact fun h => h.symm
  rw [e]
  exact this
/-- What a listed variable of texts holds. -/
theorem texts_of_laid {t e : TypeId} {n : Nat} {cs : Array Value} {ws : List ByteArray} {fuel : Nat} {ps : List MemPlace} {H : Type} {enc : TypeId × Value → H} {base : Nat} {spare : Nat → Bool} {held : Bool} {g : Nat} {name : String}
    (hg : P.globalNamed name = some g) (hv : w.var? P name = some cs) (ht : P.underlying t = some (.array n e)) (he : P.underlying e = some .string) (hc : P.cellsOf e = 1)
    (hd : DataW.trod enc P w base spare held fuel t cs.toList = some (.agg (ws.map fun x => .lit (.string x.data.toList)), ps)) : ∀ (i : Nat) (x : ByteArray), ws[i]? = some x → w.cell? ⟨g, i, none⟩ = some (.string x) := by
  intro i x hx
  obtain ⟨xs, m, _, ex, _, hl, hel⟩ := DataW.trod_array ht hd
  simp only [Prod.mk.injEq, DataW.agg.injEq] at ex
  have hlen : ws.length = n := by
    have := congrArg List.length ex.1
    simpa [hl] using this
  have hin : i < n := by
    have := (List.getElem?_eq_some_iff.1 hx).1; omega
  have hE := hel i hin
  rw [hc, Nat.mul_one, List.getElem?_eq_getElem (by omega)] at hE
  obtain ⟨s, e1, e2, _⟩ := DataW.trod_string he hE
  have e4 : (xs.map (·.1))[i]? = (ws.map fun x => (DataW.lit (.string x.data.toList) : DataW H))[i]? := by rw [← ex.1]
  rw [List.getElem?_map, List.getElem?_map, List.getElem?_eq_getElem (by omega : i < xs.length), hx, e2] at e4
  simp only [Option.map_some, Option.some.injEq, DataW.lit.injEq, Lit.string.injEq] at e4
  have hs : s = x := by
    obtain ⟨⟨a⟩⟩ := s
    obtain ⟨⟨b⟩⟩ := x
    simp only at e4
    rw [e4]
  rw [World.var?_cell hg hv i]
  have : cs.toList[i]? = some (.string s) := by
    have h0 : ((cs.toList.drop i).take 1)[0]? = some (.string s) := by rw [e1]; rfl
    simpa using h0
  rw [← hs]
  simpa using this
/-! ### strings.Trim -/
def trimSpec (s c : ByteArray) : Option ByteArray := bif decide (s.size ≤ 9223372036854775807) && (decide (c.size < 4294967281) && c.data.toList.all fun b => decide (b.toNat < 128)) then some ⟨(Lib.trimS s.data.toList c.data.toList).toArray⟩ else none
theorem trim_contract {E : Env} {f : Nat} (hsig : E.sig f = ⟨[.v .str [], .v .str []], [.v .str []], false⟩)
    (hc : ∀ (s c : ByteArray) (w : World), s.size ≤ 9223372036854775807 → c.size < 4294967281 → (c.data.toList.all fun b => decide (b.toNat < 128)) = true →
      Calls P f #[.string s, .string c] w fun e w' => e = .returned (.string ⟨(Lib.trimS s.data.toList c.data.toList).toArray⟩) ∧ Below w.heap.size w w' ∧ w.drawn ≤ w'.drawn) :
    ∀ (x : Tup (E.sig f).args) (r : Tup (E.sig f).res) (y : ByteArray × ByteArray) (q : ByteArray), HEq x y → HEq r q → trimSpec y.1 y.2 = some q → Contract P E f x r := by
  intro x r y q hx hr hsp w F0 G A vs hA
  generalize hS : E.sig f = S at x r hA
  rw [hsig] at hS
  subst hS
  cases hx; cases hr
  unfold trimSpec at hsp
  cases hcnd : (decide (y.1.size ≤ 9223372036854775807) && (decide (y.2.size < 4294967281) && y.2.data.toList.all fun b => decide (b.toNat < 128))) with
  | false => rw [hcnd] at hsp; cases hsp
  | true =>
    rw [hcnd] at hsp
    cases hsp
    simp only [Bool.and_eq_true, decide_eq_true_eq] at hcnd
    have hrel := hA.rel
    have hargs : argsOf 0 [Kd.v .str [], .v .str []] y = [(0, .sv (.one (.str y.1))), (1, .sv (.one (.str y.2)))] := rfl
    rw [hargs] at hrel
    obtain ⟨v0, vs1, h0, hrel1, rfl⟩ : ∃ v0 vs1, RP (A.F F0) A w (.sv (.one (.str y.1))) v0 ∧ All2 (fun (p : Nat × PV) v => RP (A.F F0) A w p.2 v) [(1, .sv (.one (.str y.2)))] vs1 ∧ vs = v0 :: vs1 := by
      cases hrel with | cons h t => exact ⟨_, _, h, t, rfl⟩
    obtain ⟨v1, h1, rfl⟩ : ∃ v1, RP (A.F F0) A w (.sv (.one (.str y.2))) v1 ∧ vs1 = [v1] := by
      cases hrel1 with | cons h t => cases t; exact ⟨_, h, rfl⟩
    have e0 : v0 = .string y.1 := h0
    have e1 : v1 = .string y.2 := h1
    subst e0; subst e1
    refine (hc y.1 y.2 w hcnd.1 hcnd.2.1 hcnd.2.2).mono fun e w' ⟨he, hb, hdr⟩ => ⟨_, he, ⟨hb.os, hb.tape, hb.output, hb.size, fun k hk _ => hb.block k hk, hdr⟩, fun d => ⟨Fr.none, ?_, fun _ => rfl, fun n b l h => (by cases h), fun n n' b l l' h => (by cases h)⟩⟩
    rfl
end
/-- A variable's cells, where they stand. -/
theorem var_heap {P : Program} {W : World} {name : String} {g : Nat} {cs : Array Value} (hg : P.globalNamed name = some g) (h : W.var? P name = some cs) : ∃ t z, W.heap[g]? = some (.cells cs t z) := by
  unfold World.var? at h
  rw [hg, Option.bind_some] at h
  cases ho : W.heap[g]? with
  | none => rw [ho] at h; cases h
  | some o =>
    rw [ho] at h
    cases o <;> first | (cases h; exact ⟨_, _, rfl⟩) | cases h
theorem heap_var {P : Program} {W : World} {name : String} {g : Nat} {cs : Array Value} {t : TypeId} {z : Nat × Nat} (hg : P.globalNamed name = some g) (h : W.heap[g]? = some (.cells cs t z)) : W.var? P name = some cs := by
  unfold World.var?
  rw [hg, Option.bind_some, h]
end Go.Sv
