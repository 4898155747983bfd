/- move.Text: its contract. -/
import Derived.Test.YtgogodeknkoalaaGreatDoorX15
import Derived.Test.YtgogodeknkoalaaGreatDoorX16
import Derived.Test.YtgogodeknkoalaaGreatDoorSvI
import Derived.BigCall
import Derived.Lib.LaidTab
import Derived.Lib.ItoaNum
import Derived.Sort.Grow
import Derived.Lib.ItoaLen
namespace Go.Proofs.YtgogodeknkoalaaGreatDoor.Sv
open Go Go.Sv Go.Proofs Go.Rd Go.RowKit Go.Shelf
set_option linter.unusedVariables false
set_option linter.unusedSimpArgs false
set_option maxRecDepth 100000
/-- A number in decimal. -/
def itoaB (n : Int) : ByteArray := ⟨(Lib.itoa n).toArray⟩
def text_spec (m : Mv) : Option ByteArray :=
  if 1 ≤ m.2 ∧ m.2 ≤ 5 then (if -9223372036854775808 ≤ m.1 ∧ m.1 ≤ 9223372036854775807 then some (wordB m.2 ++ ⟨#[32]⟩ ++ itoaB m.1) else none) else some ⟨#[]⟩
/-- What is proved of "Text" by hand. -/
class HasText [Dfr] : Prop where
  text : ∀ m, move_Text_spec m = text_spec m
theorem kept_grow [Dfr] (W : World) (j : Nat) (os : Array Obj) : Kept (fun _ => False) W (Go.Sort.grow (W.drewN j) os) := by
  refine ⟨rfl, rfl, rfl, ?_, fun b hb _ => ?_, ?_⟩
  · simp [Go.Sort.grow, World.drewN]
  · simp only [Go.Sort.grow, World.drewN]
    rw [Array.getElem?_append_left hb]
  · simp [Go.Sort.grow, World.drewN]
theorem pow_tab [Dfr] {F : Nat → Prop} {w W : World} (hg : GlobOK E F w) (hk : Kept (fun _ => False) w W) : Lib.TabIs Tryz.prog W "internal/strconv.uint64pow10" .u64 Lib.pow10Tab := by
  obtain ⟨_, t, z, h⟩ := hg.2 0 pow10V rfl
  have hlt := (Array.getElem?_eq_some_iff.1 h).1
  have := heap_var (P := Tryz.prog) (name := "internal/strconv.uint64pow10") (by kernel_rfl) ((hk.block _ hlt id).trans h)
  exact this.trans (by rfl)
theorem text_contract [Dfr] (m : Mv) (r : ByteArray) (h : text_spec m = some r) : Contract Tryz.prog E 17 m r := by
  obtain ⟨n, k⟩ := m
  intro w F0 G A vs hA
  obtain rfl : vs = [.agg #[.int .i64 n, .int .i64 k]] := by
    have hr := hA.rel
    cases hr with
    | cons a hr =>
      cases hr
      obtain ⟨us, rfl, hu⟩ := a
      cases hu with
      | cons h0 hu => cases hu with
        | cons h1 hu =>
          cases hu
          cases h0
          cases h1
          rfl
  have fin : ∀ {w' : World}, Kept G w w' → Sv.Returns G F0 w (E.sig 17).res r (.returned (.string r)) w' := fun hk =>
    ⟨_, rfl, hk, fun d => ⟨⟨fun _ => none, fun _ => none⟩, rfl, fun _ => rfl, fun n b l h => (by cases h), fun n n' b l l' h => (by cases h)⟩⟩
  have ka : Kept G w ((w.alloc (mBox n k)).alloc wBox) := ((Kept.refl G w).alloc _).alloc _
  unfold text_spec at h
  split at h
  · rename_i hk
    split at h
    · rename_i hn
      cases h
      have hIt : ∀ W : World, Kept (fun _ => False) w W → Calls Tryz.prog 26 #[.int .i64 n] W fun e w' => e = .returned (.string (itoaB n)) ∧ Kept (fun _ => False) W w' := fun W hW =>
        (Any.strconv_Itoa Tryz.lays171 n hn.1 hn.2 W (pow_tab hA.glob hW)).mono fun e w' ⟨he, j, os, hw⟩ => ⟨he, hw ▸ kept_grow W j os⟩
      have hs : (itoaB n).size ≤ 1000 := by
        have h1 := Lib.itoa_length_le n hn.1 hn.2
        show (Lib.itoa n).toArray.size ≤ 1000
        rw [List.size_toArray]
        omega
      have h5 : k = 1 ∨ k = 2 ∨ k = 3 ∨ k = 4 ∨ k = 5 := by have := hk.1; have := hk.2; simp only at *; omega
      rcases h5 with rfl | rfl | rfl | rfl | rfl
      · exact (text_walk1 _ _ hs w hIt).mono fun e w' ⟨he, hw⟩ => by subst he; exact fin ((Kept.refl G w).trans hw fun _ h => h.elim)
      · exact (text_walk2 _ _ hs w hIt).mono fun e w' ⟨he, hw⟩ => by subst he; exact fin ((Kept.refl G w).trans hw fun _ h => h.elim)
      · exact (text_walk3 _ _ hs w hIt).mono fun e w' ⟨he, hw⟩ => by subst he; exact fin ((Kept.refl G w).trans hw fun _ h => h.elim)
      · exact (text_walk4 _ _ hs w hIt).mono fun e w' ⟨he, hw⟩ => by subst he; exact fin ((Kept.refl G w).trans hw fun _ h => h.elim)
      · exact (text_walk5 _ _ hs w hIt).mono fun e w' ⟨he, hw⟩ => by subst he; exact fin ((Kept.refl G w).trans hw fun _ h => h.elim)
    · cases h
  · rename_i hk
    cases h
    by_cases h1 : k < 1
    · exact (text_walk_lo n k h1 w).mono fun e w' ⟨he, hw⟩ => by subst he; subst hw; exact fin ka
    · exact (text_walk_hi n k (by simp only at hk; omega) w).mono fun e w' ⟨he, hw⟩ => by subst he; subst hw; exact fin ka
end Go.Proofs.YtgogodeknkoalaaGreatDoor.Sv
