/- What a function tells in the end, however many rounds it takes: equations without rounds. -/
import Derived.Test.YtgogodeknkoalaaGreatDoorEv4
namespace Go.Sv
open Go
set_option linter.unusedVariables false
set_option linter.unusedSimpArgs false
def Mono {α : Type} (p : Nat → Option α) : Prop := ∀ k k', k ≤ k' → Le (p k) (p k')
open Classical in
noncomputable def lim {α : Type} (p : Nat → Option α) : Option α := if h : ∃ r k, p k = some r then some (Classical.choose h) else none
structure IsLim {α : Type} (p : Nat → Option α) (a : Option α) : Prop where
  mono : Mono p
  iff : ∀ r, a = some r ↔ ∃ k, p k = some r
theorem IsLim.of_mono {α : Type} {p : Nat → Option α} (h : Mono p) : IsLim p (lim p) := by
  refine ⟨h, fun r => ?_⟩
  unfold lim
  split
  · rename_i hh
    obtain ⟨k, hk⟩ := Classical.choose_spec hh
    constructor
    · intro e
      cases e
      exact ⟨k, hk⟩
    · rintro ⟨k', hk'⟩
      have h1 := h k (max k k') (by omega) _ hk
      have h2 := h k' (max k k') (by omega) _ hk'
      rw [h1] at h2
      exact h2
  · rename_i hh
    constructor
    · intro e; cases e
    · rintro ⟨k, hk⟩; exact absurd ⟨r, k, hk⟩ hh
theorem IsLim.unique {α : Type} {p : Nat → Option α} {a b : Option α} (h : IsLim p a) (h' : IsLim p b) : a = b := by
  cases ha : a with
  | none =>
    cases hb : b with
    | none => rfl
    | some r => have := (h.iff r).2 ((h'.iff r).1 hb); rw [ha] at this; cases this
  | some r => exact ((h'.iff r).2 ((h.iff r).1 ha)).symm
theorem IsLim.eq {α : Type} {p : Nat → Option α} {a : Option α} (h : IsLim p a) : lim p = a := (IsLim.of_mono h.mono).unique h
theorem IsLim.some {α : Type} (r : α) : IsLim (fun _ => Option.some r) (Option.some r) := ⟨fun _ _ _ => Le.refl _, fun r' => ⟨fun h => ⟨0, h⟩, fun ⟨_, h⟩ => h⟩⟩
theorem IsLim.none {α : Type} : IsLim (fun _ => (Option.none : Option α)) Option.none := ⟨fun _ _ _ => Le.refl _, fun r' => ⟨fun h => ⟨0, h⟩, fun ⟨_, h⟩ => h⟩⟩
theorem IsLim.of {α : Type} (p : Nat → Option α) (a : Option α) (h : ∀ k, p k = a) : IsLim p a := by
  obtain rfl : p = fun _ => a := funext h
  exact ⟨fun _ _ _ => Le.refl _, fun r' => ⟨fun h => ⟨0, h⟩, fun ⟨_, h⟩ => h⟩⟩
theorem IsLim.cond {α : Type} {c : Bool} {p q : Nat → Option α} {a b : Option α} (h1 : IsLim p a) (h2 : IsLim q b) : IsLim (fun k => bif c then p k else q k) (bif c then a else b) := by
  cases c <;> assumption
theorem IsLim.bind {α β : Type} {p : Nat → Option α} {q : α → Nat → Option β} {a : Option α} {b : α → Option β} (h1 : IsLim p a) (h2 : ∀ x, IsLim (q x) (b x)) : IsLim (fun k => (p k).bind fun x => q x k) (a.bind b) := by
  refine ⟨fun k k' hk => Le.bind (h1.mono k k' hk) fun x => (h2 x).mono k k' hk, fun r => ?_⟩
  simp only [Option.bind_eq_some_iff]
  constructor
  · rintro ⟨x, hx, hr⟩
    obtain ⟨k, hk⟩ := (h1.iff x).1 hx
    obtain ⟨k', hk'⟩ := ((h2 x).iff r).1 hr
    exact ⟨max k k', x, h1.mono k _ (by omega) _ hk, (h2 x).mono k' _ (by omega) _ hk'⟩
  · rintro ⟨k, x, hx, hr⟩
    exact ⟨x, (h1.iff x).2 ⟨k, hx⟩, ((h2 x).iff r).2 ⟨k, hr⟩⟩
section
variable {E : Env}
theorem IsLim.run (f : Nat) (x : Tup (E.sig f).args) : IsLim (fun k => run E k f x) (lim fun k => run E k f x) := .of_mono fun k k' h => run_le k k' h f x
theorem IsLim.lp (f b : Nat) (x : Tup (E.hs f b).ks) : IsLim (fun k => lp E f b k k x) (lim fun k => lp E f b k k x) := .of_mono fun k k' h r hr => lp_mono hr h h
variable (E) in
noncomputable def dyn (v : FnV) (args : List SV) (t : Ty) : Option t.den := lim fun k => callDyn E (Go.Sv.run E k) v args t
theorem IsLim.dyn (v : FnV) (args : List SV) (t : Ty) : IsLim (fun k => callDyn E (Go.Sv.run E k) v args t) (dyn E v args t) := .of_mono fun k k' h => callDyn_mono (fun f x => run_le k k' h f x) v args t
theorem fn_eq {f : Nat} {x : Tup (E.sig f).args} {p : Nat → Option (Tup (E.sig f).res)} {a : Option (Tup (E.sig f).res)} (h : IsLim p a) (he : ∀ k, Go.Sv.run E (k + 1) f x = p k) : lim (fun k => Go.Sv.run E k f x) = a := by
  refine (IsLim.run f x).unique ⟨(IsLim.run f x).mono, fun r => ?_⟩
  rw [h.iff]
  constructor
  · rintro ⟨k, hk⟩; exact ⟨k + 1, (he k).trans hk⟩
  · rintro ⟨k, hk⟩; exact ⟨k, (he k).symm.trans (run_mono hk (by omega))⟩
theorem lp_eq {f b : Nat} {x : Tup (E.hs f b).ks} {p : Nat → Option (Nat × Tup (E.os f b).ks)} {a : Option (Nat × Tup (E.os f b).ks)} (h : IsLim p a) (he : ∀ k, Go.Sv.lp E f b k (k + 1) x = p k) : lim (fun k => Go.Sv.lp E f b k k x) = a := by
  refine (IsLim.lp f b x).unique ⟨(IsLim.lp f b x).mono, fun r => ?_⟩
  rw [h.iff]
  constructor
  · rintro ⟨k, hk⟩; exact ⟨k + 1, lp_mono ((he k).trans hk) (by omega) (by omega)⟩
  · rintro ⟨k, hk⟩; exact ⟨k, (he k).symm.trans (lp_mono hk (by omega) (by omega))⟩
theorem dyn_eq {v : FnV} {args : List SV} {t : Ty} {f : Nat} {x : Tup (E.sig f).args} {g : Tup (E.sig f).res → Option t.den} (he : ∀ k, callDyn E (Go.Sv.run E k) v args t = (Go.Sv.run E k f x).bind g) : dyn E v args t = (lim fun k => Go.Sv.run E k f x).bind g := by
  refine (IsLim.dyn v args t).unique ?_
  have := (IsLim.run (E := E) f x).bind (q := fun r k => g r) (b := g) fun r => ⟨fun _ _ _ => Le.refl _, fun r' => ⟨fun h => ⟨0, h⟩, fun ⟨_, h⟩ => h⟩⟩
  rwa [show (fun k => callDyn E (Go.Sv.run E k) v args t) = fun k => (Go.Sv.run E k f x).bind g from funext he]
/-- From what is told in the end, for a row. -/
theorem ex_run {f : Nat} {x : Tup (E.sig f).args} {r : Tup (E.sig f).res} (h : lim (fun k => Go.Sv.run E k f x) = some r) : ∃ k, Go.Sv.run E k f x = some r := ((IsLim.run f x).iff r).1 h
end
/-! ### words of the equations -/
abbrev Nd := Int × ByteArray × Int
abbrev Mv := Int × Int
def ix {α : Type} [Inhabited α] (xs : List α) (i : Int) : α := xs.getD i.toNat default
def w64 (n : Int) : Int := IntKind.wrap .i64 n
theorem ix_nat {α : Type} [Inhabited α] {xs : List α} {i : Nat} (h : i < xs.length) : ix xs (i : Int) = xs[i] := by
  unfold ix
  rw [Int.toNat_natCast, List.getD_eq_getElem?_getD, List.getElem?_eq_getElem h]; rfl
theorem w64_id {n : Int} (h0 : -9223372036854775808 ≤ n) (h1 : n ≤ 9223372036854775807) : w64 n = n := wrap_small h0 h1
theorem toList_inj {a b : ByteArray} (h : a.toList = b.toList) : a = b := by
  rw [ByteArray.toList_eq, ByteArray.toList_eq] at h
  obtain ⟨⟨x⟩⟩ := a
  obtain ⟨⟨y⟩⟩ := b
  simp only at h
  rw [h]
def bq (a b : ByteArray) : Bool := a.toList == b.toList
theorem bq_eq (a b : ByteArray) : bq a b = decide (a = b) := by
  unfold bq
  by_cases h : a = b
  · simp [h]
  · simp only [h, decide_false, beq_eq_false_iff_ne, ne_eq]
    exact fun e => h (toList_inj e)
end Go.Sv
