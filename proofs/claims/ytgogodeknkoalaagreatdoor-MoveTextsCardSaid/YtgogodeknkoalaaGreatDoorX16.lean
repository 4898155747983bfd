/- move.Text: its walk. -/
import Derived.Test.YtgogodeknkoalaaGreatDoorX14
import Derived.Deep.RegionHeld3
namespace Go.Proofs.YtgogodeknkoalaaGreatDoor.Sv
open Go Go.Sv Go.Proofs Go.Rd Go.RowKit Go.Shelf
set_option linter.unusedVariables false
set_option linter.unusedSimpArgs false
set_option maxRecDepth 100000
attribute [local go_sem] Oper.semAt_some
def wordB (h : Int) : ByteArray := if h = 1 then ⟨#[100, 111]⟩ else if h = 2 then ⟨#[108, 101, 102, 116]⟩ else if h = 3 then ⟨#[114, 105, 103, 104, 116]⟩ else if h = 4 then ⟨#[103, 111]⟩ else if h = 5 then ⟨#[115, 116, 111, 112]⟩ else ⟨#[]⟩
abbrev mBox (n h : Int) : Obj := .cells #[.int .i64 n, .int .i64 h] 29
abbrev wBox : Obj := .cells #[.string ⟨#[]⟩, .string ⟨#[100, 111]⟩, .string ⟨#[108, 101, 102, 116]⟩, .string ⟨#[114, 105, 103, 104, 116]⟩, .string ⟨#[103, 111]⟩, .string ⟨#[115, 116, 111, 112]⟩] 49
theorem kept_cell [Dfr] {w w' : World} {G : Nat → Prop} (hk : Kept G w w') {a : Addr} {v : Value} (hG : ¬ G a.block) (h : w.cell? a = some v) : w'.cell? a = some v := by
  have hlt := World.block_lt_of_cell? w a h
  have := hk.block a.block hlt hG
  simp only [World.cell?, this] at h ⊢
  exact h
/-- What the walk knows of the world: three cells, and that what was there is as it was. -/
theorem text_keep [Dfr] {w W w' : World} {a b c : Addr} {x y z : Value} (h : W.cell? a = some x ∧ W.cell? b = some y ∧ W.cell? c = some z ∧ Kept (fun _ => False) w W) (hk : Kept (fun _ => False) W w') :
    w'.cell? a = some x ∧ w'.cell? b = some y ∧ w'.cell? c = some z ∧ Kept (fun _ => False) w w' :=
  ⟨kept_cell hk id h.1, kept_cell hk id h.2.1, kept_cell hk id h.2.2.1, h.2.2.2.trans hk fun _ h => h.elim⟩
theorem text_drew [Dfr] {w W : World} {a b c : Addr} {x y z : Value} (h : W.cell? a = some x ∧ W.cell? b = some y ∧ W.cell? c = some z ∧ Kept (fun _ => False) w W) :
    W.drew.cell? a = some x ∧ W.drew.cell? b = some y ∧ W.drew.cell? c = some z ∧ Kept (fun _ => False) w W.drew :=
  text_keep h (Kept.refl _ W).drew
set_option maxHeartbeats 3200000 in
theorem text_walk1 [Dfr] (n : Int) (s : ByteArray) (hs : s.size ≤ 1000) (w : World) (hIt : ∀ W : World, Kept (fun _ => False) w W → Calls Tryz.prog 26 #[.int .i64 n] W fun e w' => e = .returned (.string s) ∧ Kept (fun _ => False) W w') :
    Calls Tryz.prog 17 #[.agg #[.int .i64 n, .int .i64 1]] w fun e w' => e = .returned (.string (wordB 1 ++ ⟨#[32]⟩ ++ s)) ∧ Kept (fun _ => False) w w' := by
  have hz : ¬ 9223372036854775807 < 3 + s.size := by omega
  have h0 : ((w.alloc (mBox n 1)).alloc wBox).cell? ⟨w.heap.size, 0, none⟩ = some (.int .i64 n) ∧ ((w.alloc (mBox n 1)).alloc wBox).cell? ⟨w.heap.size, 1, none⟩ = some (.int .i64 1) ∧ ((w.alloc (mBox n 1)).alloc wBox).cell? ⟨w.heap.size + 1, 1, none⟩ = some (.string ⟨#[100, 111]⟩) ∧ Kept (fun _ => False) w ((w.alloc (mBox n 1)).alloc wBox) := by
    refine ⟨by simp [World.cell?_alloc_some], by simp [World.cell?_alloc_some], ?_, ((Kept.refl _ w).alloc _).alloc _⟩
    have : ((w.alloc (mBox n 1)).alloc wBox).heap[w.heap.size + 1]? = some wBox := by
      show ((w.heap.push _).push _)[w.heap.size + 1]? = _
      rw [Array.getElem?_push, if_pos (by simp)]
    simp only [World.cell?, this]; rfl
  have h0d := text_drew h0
  clear h0
  go_enter Tryz.func17, Tryz.ntmps17
  go_wp2_with fail
  go_region_held3 (fun w' => w'.cell? ⟨w.heap.size, 0, none⟩ = some (.int .i64 n) ∧ w'.cell? ⟨w.heap.size, 1, none⟩ = some (.int .i64 1) ∧ w'.cell? ⟨w.heap.size + 1, 1, none⟩ = some (.string ⟨#[100, 111]⟩) ∧ Kept (fun _ => False) w w') (first | assumption | exact text_keep (by assumption) (by assumption))
    (first | (go_at_call 26; refine (hIt _ (And.right (And.right (And.right (by assumption))))).mono ?_; rintro e w' ⟨rfl, hkk⟩))
  all_goals go_wp2
  all_goals go_ret
  all_goals exact ⟨rfl, And.right (And.right (And.right (by assumption)))⟩
set_option maxHeartbeats 3200000 in
theorem text_walk2 [Dfr] (n : Int) (s : ByteArray) (hs : s.size ≤ 1000) (w : World) (hIt : ∀ W : World, Kept (fun _ => False) w W → Calls Tryz.prog 26 #[.int .i64 n] W fun e w' => e = .returned (.string s) ∧ Kept (fun _ => False) W w') :
    Calls Tryz.prog 17 #[.agg #[.int .i64 n, .int .i64 2]] w fun e w' => e = .returned (.string (wordB 2 ++ ⟨#[32]⟩ ++ s)) ∧ Kept (fun _ => False) w w' := by
  have hz : ¬ 9223372036854775807 < 5 + s.size := by omega
  have h0 : ((w.alloc (mBox n 2)).alloc wBox).cell? ⟨w.heap.size, 0, none⟩ = some (.int .i64 n) ∧ ((w.alloc (mBox n 2)).alloc wBox).cell? ⟨w.heap.size, 1, none⟩ = some (.int .i64 2) ∧ ((w.alloc (mBox n 2)).alloc wBox).cell? ⟨w.heap.size + 1, 2, none⟩ = some (.string ⟨#[108, 101, 102, 116]⟩) ∧ Kept (fun _ => False) w ((w.alloc (mBox n 2)).alloc wBox) := by
    refine ⟨by simp [World.cell?_alloc_some], by simp [World.cell?_alloc_some], ?_, ((Kept.refl _ w).alloc _).alloc _⟩
    have : ((w.alloc (mBox n 2)).alloc wBox).heap[w.heap.size + 1]? = some wBox := by
      show ((w.heap.push _).push _)[w.heap.size + 1]? = _
      rw [Array.getElem?_push, if_pos (by simp)]
    simp only [World.cell?, this]; rfl
  have h0d := text_drew h0
  clear h0
  go_enter Tryz.func17, Tryz.ntmps17
  go_wp2_with fail
  go_region_held3 (fun w' => w'.cell? ⟨w.heap.size, 0, none⟩ = some (.int .i64 n) ∧ w'.cell? ⟨w.heap.size, 1, none⟩ = some (.int .i64 2) ∧ w'.cell? ⟨w.heap.size + 1, 2, none⟩ = some (.string ⟨#[108, 101, 102, 116]⟩) ∧ Kept (fun _ => False) w w') (first | assumption | exact text_keep (by assumption) (by assumption))
    (first | (go_at_call 26; refine (hIt _ (And.right (And.right (And.right (by assumption))))).mono ?_; rintro e w' ⟨rfl, hkk⟩))
  all_goals go_wp2
  all_goals go_ret
  all_goals exact ⟨rfl, And.right (And.right (And.right (by assumption)))⟩
set_option maxHeartbeats 3200000 in
theorem text_walk3 [Dfr] (n : Int) (s : ByteArray) (hs : s.size ≤ 1000) (w : World) (hIt : ∀ W : World, Kept (fun _ => False) w W → Calls Tryz.prog 26 #[.int .i64 n] W fun e w' => e = .returned (.string s) ∧ Kept (fun _ => False) W w') :
    Calls Tryz.prog 17 #[.agg #[.int .i64 n, .int .i64 3]] w fun e w' => e = .returned (.string (wordB 3 ++ ⟨#[32]⟩ ++ s)) ∧ Kept (fun _ => False) w w' := by
  have hz : ¬ 9223372036854775807 < 6 + s.size := by omega
  have h0 : ((w.alloc (mBox n 3)).alloc wBox).cell? ⟨w.heap.size, 0, none⟩ = some (.int .i64 n) ∧ ((w.alloc (mBox n 3)).alloc wBox).cell? ⟨w.heap.size, 1, none⟩ = some (.int .i64 3) ∧ ((w.alloc (mBox n 3)).alloc wBox).cell? ⟨w.heap.size + 1, 3, none⟩ = some (.string ⟨#[114, 105, 103, 104, 116]⟩) ∧ Kept (fun _ => False) w ((w.alloc (mBox n 3)).alloc wBox) := by
    refine ⟨by simp [World.cell?_alloc_some], by simp [World.cell?_alloc_some], ?_, ((Kept.refl _ w).alloc _).alloc _⟩
    have : ((w.alloc (mBox n 3)).alloc wBox).heap[w.heap.size + 1]? = some wBox := by
      show ((w.heap.push _).push _)[w.heap.size + 1]? = _
      rw [Array.getElem?_push, if_pos (by simp)]
    simp only [World.cell?, this]; rfl
  have h0d := text_drew h0
  clear h0
  go_enter Tryz.func17, Tryz.ntmps17
  go_wp2_with fail
  go_region_held3 (fun w' => w'.cell? ⟨w.heap.size, 0, none⟩ = some (.int .i64 n) ∧ w'.cell? ⟨w.heap.size, 1, none⟩ = some (.int .i64 3) ∧ w'.cell? ⟨w.heap.size + 1, 3, none⟩ = some (.string ⟨#[114, 105, 103, 104, 116]⟩) ∧ Kept (fun _ => False) w w') (first | assumption | exact text_keep (by assumption) (by assumption))
    (first | (go_at_call 26; refine (hIt _ (And.right (And.right (And.right (by assumption))))).mono ?_; rintro e w' ⟨rfl, hkk⟩))
  all_goals go_wp2
  all_goals go_ret
  all_goals exact ⟨rfl, And.right (And.right (And.right (by assumption)))⟩
set_option maxHeartbeats 3200000 in
theorem text_walk4 [Dfr] (n : Int) (s : ByteArray) (hs : s.size ≤ 1000) (w : World) (hIt : ∀ W : World, Kept (fun _ => False) w W → Calls Tryz.prog 26 #[.int .i64 n] W fun e w' => e = .returned (.string s) ∧ Kept (fun _ => False) W w') :
    Calls Tryz.prog 17 #[.agg #[.int .i64 n, .int .i64 4]] w fun e w' => e = .returned (.string (wordB 4 ++ ⟨#[32]⟩ ++ s)) ∧ Kept (fun _ => False) w w' := by
  have hz : ¬ 9223372036854775807 < 3 + s.size := by omega
  have h0 : ((w.alloc (mBox n 4)).alloc wBox).cell? ⟨w.heap.size, 0, none⟩ = some (.int .i64 n) ∧ ((w.alloc (mBox n 4)).alloc wBox).cell? ⟨w.heap.size, 1, none⟩ = some (.int .i64 4) ∧ ((w.alloc (mBox n 4)).alloc wBox).cell? ⟨w.heap.size + 1, 4, none⟩ = some (.string ⟨#[103, 111]⟩) ∧ Kept (fun _ => False) w ((w.alloc (mBox n 4)).alloc wBox) := by
    refine ⟨by simp [World.cell?_alloc_some], by simp [World.cell?_alloc_some], ?_, ((Kept.refl _ w).alloc _).alloc _⟩
    have : ((w.alloc (mBox n 4)).alloc wBox).heap[w.heap.size + 1]? = some wBox := by
      show ((w.heap.push _).push _)[w.heap.size + 1]? = _
      rw [Array.getElem?_push, if_pos (by simp)]
    simp only [World.cell?, this]; rfl
  have h0d := text_drew h0
  clear h0
  go_enter Tryz.func17, Tryz.ntmps17
  go_wp2_with fail
  go_region_held3 (fun w' => w'.cell? ⟨w.heap.size, 0, none⟩ = some (.int .i64 n) ∧ w'.cell? ⟨w.heap.size, 1, none⟩ = some (.int .i64 4) ∧ w'.cell? ⟨w.heap.size + 1, 4, none⟩ = some (.string ⟨#[103, 111]⟩) ∧ Kept (fun _ => False) w w') (first | assumption | exact text_keep (by assumption) (by assumption))
    (first | (go_at_call 26; refine (hIt _ (And.right (And.right (And.right (by assumption))))).mono ?_; rintro e w' ⟨rfl, hkk⟩))
  all_goals go_wp2
  all_goals go_ret
  all_goals exact ⟨rfl, And.right (And.right (And.right (by assumption)))⟩
set_option maxHeartbeats 3200000 in
theorem text_walk5 [Dfr] (n : Int) (s : ByteArray) (hs : s.size ≤ 1000) (w : World) (hIt : ∀ W : World, Kept (fun _ => False) w W → Calls Tryz.prog 26 #[.int .i64 n] W fun e w' => e = .returned (.string s) ∧ Kept (fun _ => False) W w') :
    Calls Tryz.prog 17 #[.agg #[.int .i64 n, .int .i64 5]] w fun e w' => e = .returned (.string (wordB 5 ++ ⟨#[32]⟩ ++ s)) ∧ Kept (fun _ => False) w w' := by
  have hz : ¬ 9223372036854775807 < 5 + s.size := by omega
  have h0 : ((w.alloc (mBox n 5)).alloc wBox).cell? ⟨w.heap.size, 0, none⟩ = some (.int .i64 n) ∧ ((w.alloc (mBox n 5)).alloc wBox).cell? ⟨w.heap.size, 1, none⟩ = some (.int .i64 5) ∧ ((w.alloc (mBox n 5)).alloc wBox).cell? ⟨w.heap.size + 1, 5, none⟩ = some (.string ⟨#[115, 116, 111, 112]⟩) ∧ Kept (fun _ => False) w ((w.alloc (mBox n 5)).alloc wBox) := by
    refine ⟨by simp [World.cell?_alloc_some], by simp [World.cell?_alloc_some], ?_, ((Kept.refl _ w).alloc _).alloc _⟩
    have : ((w.alloc (mBox n 5)).alloc wBox).heap[w.heap.size + 1]? = some wBox := by
      show ((w.heap.push _).push _)[w.heap.size + 1]? = _
      rw [Array.getElem?_push, if_pos (by simp)]
    simp only [World.cell?, this]; rfl
  have h0d := text_drew h0
  clear h0
  go_enter Tryz.func17, Tryz.ntmps17
  go_wp2_with fail
  go_region_held3 (fun w' => w'.cell? ⟨w.heap.size, 0, none⟩ = some (.int .i64 n) ∧ w'.cell? ⟨w.heap.size, 1, none⟩ = some (.int .i64 5) ∧ w'.cell? ⟨w.heap.size + 1, 5, none⟩ = some (.string ⟨#[115, 116, 111, 112]⟩) ∧ Kept (fun _ => False) w w') (first | assumption | exact text_keep (by assumption) (by assumption))
    (first | (go_at_call 26; refine (hIt _ (And.right (And.right (And.right (by assumption))))).mono ?_; rintro e w' ⟨rfl, hkk⟩))
  all_goals go_wp2
  all_goals go_ret
  all_goals exact ⟨rfl, And.right (And.right (And.right (by assumption)))⟩
set_option maxHeartbeats 3200000 in
theorem text_walk_lo [Dfr] (n h : Int) (hh : h < 1) (w : World) :
    Calls Tryz.prog 17 #[.agg #[.int .i64 n, .int .i64 h]] w fun e w' => e = .returned (.string ⟨#[]⟩) ∧ w' = (w.alloc (mBox n h)).alloc wBox := by
  go_enter Tryz.func17, Tryz.ntmps17
  go_wp2
  all_goals go_ret
  all_goals exact ⟨rfl, rfl⟩
set_option maxHeartbeats 3200000 in
theorem text_walk_hi [Dfr] (n h : Int) (hh : 5 < h) (w : World) :
    Calls Tryz.prog 17 #[.agg #[.int .i64 n, .int .i64 h]] w fun e w' => e = .returned (.string ⟨#[]⟩) ∧ w' = (w.alloc (mBox n h)).alloc wBox := by
  have h0 : ¬ h < 1 := by omega
  go_enter Tryz.func17, Tryz.ntmps17
  go_wp2
  all_goals go_ret
  all_goals exact ⟨rfl, rfl⟩
end Go.Proofs.YtgogodeknkoalaaGreatDoor.Sv
