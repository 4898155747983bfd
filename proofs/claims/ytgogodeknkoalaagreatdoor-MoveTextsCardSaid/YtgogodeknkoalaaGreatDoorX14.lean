/- move.ways, move.Text: their contracts, by hand. -/
import Derived.Test.YtgogodeknkoalaaGreatDoorSvTop
import Derived.Test.YtgogodeknkoalaaGreatDoorSvK
import Derived.Test.YtgogodeknkoalaaGreatDoorW12
import Derived.WalkKit
import Derived.Carry
namespace Go.Proofs.YtgogodeknkoalaaGreatDoor.Sv
open Go Go.Sv Go.Proofs Go.Rd Go.RowKit Go.Shelf
set_option linter.unusedVariables false
set_option linter.unusedSimpArgs false
set_option maxRecDepth 100000
attribute [local go_sem] Oper.semAt_some
/-- A world in which one object is another one. -/
def setO (w : World) (b : Nat) (o : Obj) : World := { w with heap := w.heap.setIfInBounds b o }
theorem setO_size [Dfr] (w : World) (b : Nat) (o : Obj) : (setO w b o).heap.size = w.heap.size := by simp [setO]
theorem run_insert [Dfr] {P : Program} {t kt et : TypeId} {b clock : Nat} {es : Array MapEntry} {n : Int} (v : Value) {w : World} (hu : P.underlying t = some (.map kt et)) (hk : P.underlying kt = some (.int .i64)) (hb : w.heap[b]? = some (.map es clock))
    (hf : Instr.findNow (.int .i64) (.int .i64 n) es.toList 0 = some none) : (Instr.mapUpdate t (.map (some b)) (.int .i64 n) v).run P w = .ok () (setO w b (.map (es.push ⟨.int .i64 n, v, clock⟩) (clock + 1))) := by
  have hck : (Instr.checkKey false 10000 kt (.int .i64 n)).run P w = .ok () w := by
    rw [show (10000 : Nat) = 9999 + 1 from rfl]
    unfold Instr.checkKey
    simp [run_underlying hk]
  have hgo : (getObj b).run P w = .ok (.map es clock) w := by simp [getObj, Sem.run, hb]
  unfold Instr.mapUpdate
  simp [run_underlying hu, run_underlying hk, hgo, hck, Instr.findKey, hf, Go.setObj, Sem.run, hb, setO]
theorem look1 [Dfr] (w : World) (A M S : Obj) : (((w.alloc A).alloc M).alloc S).heap[w.heap.size + 1]? = some M := by
  show (((w.heap.push A).push M).push S)[w.heap.size + 1]? = some M
  rw [Array.getElem?_push, if_neg (by simp), Array.getElem?_push, if_pos (by simp)]
theorem look2 [Dfr] (w : World) (A M S M1 S2 : Obj) : ((setO (((w.alloc A).alloc M).alloc S) (w.heap.size + 1) M1).alloc S2).heap[w.heap.size + 1]? = some M1 := by
  show (((((w.heap.push A).push M).push S).setIfInBounds (w.heap.size + 1) M1).push S2)[w.heap.size + 1]? = some M1
  rw [Array.getElem?_push, if_neg (by simp), Array.getElem?_setIfInBounds, if_pos rfl, if_pos (by simp)]
theorem look3 [Dfr] (w : World) (b : Nat) (o : Obj) (h : b < w.heap.size) : (setO w b o).heap[b]? = some o := by simp [setO, Array.getElem?_setIfInBounds, h]
/-- The world behind 'ways'. -/
def endW (w : World) (A M S1 M1 S2 M2 M3 M4 : Obj) : World := setO (setO (setO ((setO (((w.alloc A).alloc M).alloc S1) (w.heap.size + 1) M1).alloc S2) (w.heap.size + 1) M2) (w.heap.size + 1) M3) (w.heap.size + 1) M4
abbrev give (w : World) : Obj := .cells #[.int .i64 4, .func (.func 41) #[] #[], .int .i64 5, .func (.func 20) #[] #[]] 47
abbrev one1 : Obj := .cells #[.int .i64 1, .func (.func 41) #[] #[]] 47
abbrev two6 : Obj := .cells #[.int .i64 2, .func (.func 41) #[] #[], .int .i64 3, .func (.func 41) #[] #[]] 47
abbrev en1 (w : World) : MapEntry := ⟨.int .i64 1, .slice (some ⟨w.heap.size + 1 + 1, 0, none⟩) 1 1, 0⟩
abbrev en6 (w : World) : MapEntry := ⟨.int .i64 6, .slice (some ⟨w.heap.size + 1 + 1 + 1, 0, none⟩) 2 2, 1⟩
abbrev en4 (w : World) : MapEntry := ⟨.int .i64 4, .slice (some ⟨w.heap.size, 0, none⟩) 2 2, 2⟩
abbrev en10 (w : World) : MapEntry := ⟨.int .i64 10, .slice (some ⟨w.heap.size, 0, none⟩) 2 2, 3⟩
set_option maxHeartbeats 3200000 in
theorem ways_walk [Dfr] (w : World) : Calls Tryz.prog 22 #[] w fun e w' => e = .returned (.map (some (w.heap.size + 1))) ∧
    w' = endW w (give w) (.map #[] 0) one1 (.map #[en1 w] 1) two6 (.map #[en1 w, en6 w] 2) (.map #[en1 w, en6 w, en4 w] 3) (.map #[en1 w, en6 w, en4 w, en10 w] 4) := by
  have hmm := @run_makeMap Tryz.prog
  have hsz := setO_size
  go_enter Tryz.func22, Tryz.ntmps22
  go_wp2
  rw [run_insert (es := #[]) (clock := 0) _ Tryz.underlying43 Tryz.underlying3 (look1 w _ _ _) rfl]
  go_wp2
  rw [run_insert (clock := 1) _ Tryz.underlying43 Tryz.underlying3 (look2 w _ _ _ _ _) rfl]
  go_wp2
  rw [run_insert (clock := 2) _ Tryz.underlying43 Tryz.underlying3 (look3 _ _ _ (by simp [-World.alloc_eq, setO, World.alloc])) rfl]
  go_wp2
  rw [run_insert (clock := 3) _ Tryz.underlying43 Tryz.underlying3 (look3 _ _ _ (by simp [-World.alloc_eq, setO, World.alloc])) rfl]
  go_wp2
  go_ret
  exact ⟨rfl, rfl⟩
end Go.Proofs.YtgogodeknkoalaaGreatDoor.Sv
