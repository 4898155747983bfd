/- step.Put: its contract, by hand. -/
import Derived.Test.YtjogkjgpbeenfaaDoorSvTop
import Derived.Test.YtjogkjgpbeenfaaDoorSvK
import Derived.Test.YtjogkjgpbeenfaaDoorW03r
import Derived.WalkKit
import Derived.Carry
import Derived.BigCall
import Derived.Laws.CopyRow
import Derived.Laws.MakeOwn
import Derived.Deep.RegionHeld3
namespace Go.Proofs.YtjogkjgpbeenfaaDoor.Sv
open Go Go.Sv Go.Proofs Go.Rd Go.RowKit
set_option linter.unusedVariables false
set_option linter.unusedSimpArgs false
set_option maxRecDepth 100000
attribute [local go_sem] Oper.semAt_some
/-- What a row's cells are, written out. -/
structure Els (F : Nat → Prop) (w : World) (t : Ty) (ys : List t.den) (news : List Value) : Prop where
  len : news.length = ys.length * t.sz
  one : ∀ v ∈ news, v.oneCell' = true
  el : ∀ i x, ys[i]? = some x → ∃ ds, Cl F w t x ds ∧ ∀ j z, ds[j]? = some z → news[i * t.sz + j]? = some z
/-- A row's cells, once and for all worlds that keep what it lies in. -/
theorem copy_any [Dfr] {P : Program} {dT sT ty e : TypeId} {t : Ty} {w : World} {F : Nat → Prop} {ys : List t.den} {v : Value} (hu : P.underlying dT = some (.slice e)) (hs : (P.info? e).map (·.size) = some t.sz) (hv : Cl F w (.slice e t) ys [v]) :
    ∃ news, Els F w t ys news ∧ ∀ (W : World), (∀ b, b < w.heap.size → W.heap[b]? = w.heap[b]?) → ∀ (g o dLen dCap tid : Nat) (cur : Array Value), W.heap[g]? = some (.cells cur tid (0, 0)) → ys.length ≤ dLen → o + ys.length * t.sz ≤ cur.size →
      (Builtin.copy_ #[dT, sT] ty #[.slice (some ⟨g, o, none⟩) dLen dCap, v]).run P W = .ok (goInt ys.length) (W.setRow g (cur.toList.take o ++ news ++ cur.toList.drop (o + news.length)).toArray) := by
  rw [Cl] at hv
  obtain ⟨A, c, hvv, hc, hrow⟩ := hv
  obtain rfl : v = .slice A ys.length c := by simpa using hvv
  cases hq : P.info? e with
  | none => simp [hq] at hs
  | some i =>
    have hi : i.size = t.sz := by simpa [hq] using hs
    rcases hrow with rfl | ⟨a, rfl, hF, hrow⟩
    · refine ⟨[], ⟨by simp, fun v h => (by cases h), fun i x h => (by cases h)⟩, fun W hW g o dLen dCap tid cur hg hle hfit => ?_⟩
      have hst := run_storeCells_at P g o tid [] 0 cur W hg (by simpa using hfit) (fun v h => by cases h)
      have hl0 : ∀ a : Addr, (loadCells a 0).run P W = .ok #[] W := fun a => by
        have := run_loadCells_list (P := P) W a [] (fun j v h => by simp at h)
        simpa using this
      cases A with
      | none => simp [Builtin.copy_, run_underlying hu, Builtin.lenOf, Builtin.firstCells, sizeOf, typeInfo, hq, hi, hst]
      | some a => simp [Builtin.copy_, run_underlying hu, Builtin.lenOf, Builtin.firstCells, sizeOf, typeInfo, hq, hi, hst, hl0]
    · obtain ⟨news, hn⟩ := src_of hrow
      refine ⟨news, ⟨hn.len, hn.one, hn.el⟩, fun W hW g o dLen dCap tid cur hg hle hfit => ?_⟩
      have hmin : Nat.min ys.length dLen = ys.length := Nat.min_eq_left hle
      have hl := run_loadCells_list (P := P) W a news (fun j v hj => by
        have h1 := hn.cell j v hj
        have h2 := World.block_lt_of_cell? w _ h1
        rw [← h1]
        exact World.cell?_of_block (hW _ h2))
      rw [hn.len] at hl
      have hst := run_storeCells_at P g o tid news 0 cur W hg (by rw [hn.len]; simpa using hfit) hn.one
      simp [Builtin.copy_, run_underlying hu, Builtin.lenOf, Builtin.firstCells, sizeOf, typeInfo, hq, hi, hmin, hl, hst]
abbrev NdY : Ty := .pair (.int .i64) (.pair .str (.int .i64))
abbrev rowT : Nat := 22
/-- A cut of a row. -/
theorem cut_run [Dfr] [DfrOK] {F : Nat → Prop} {w : World} {xs : List Nd} {A : Option Addr} {cap : Nat} {lo hi : Option Value} {l h : Int} (hv : Cl F w (.slice 28 NdY) xs [.slice A xs.length cap])
    (hl : Bound lo l 0) (hh : Bound hi h xs.length) (h0 : 0 ≤ l) (h1 : l ≤ h) (h2 : h ≤ (xs.length : Int)) :
    ∃ v, (∀ W, (Instr.sliceAt rowT (.slice A xs.length cap) lo hi none).run Tryd.prog W = .ok v W) ∧ Cl F w (.slice 28 NdY) (cut xs l h) [v] := by
  have hc : xs.length ≤ cap := by
    have := hv
    rw [Cl] at this
    obtain ⟨a, c, e, hc, _⟩ := this
    simp only [List.cons.injEq, Value.slice.injEq, and_true, true_and] at e
    omega
  have ht := tab.types.ti rowT _ rfl
  obtain ⟨ie, hie, hsz, _⟩ := (tab.types.ti 28 _ rfl).info
  obtain ⟨M, hr, hM, hM2⟩ := slice_run ht rfl hie A hl hh (.inl rfl) h0 h1 h2 hc w
  have hMc : M = cap := by
    rcases hM2 with ⟨_, h⟩ | ⟨h, _⟩
    · exact h
    · exact absurd rfl h
  refine ⟨_, fun W => ?_, Cl.cut (by simp [cutOk]; omega) hv hM⟩
  obtain ⟨M', hr', _, hM2'⟩ := slice_run ht rfl hie A hl hh (.inl rfl) h0 h1 h2 hc W
  have hMc' : M' = cap := by
    rcases hM2' with ⟨_, h⟩ | ⟨h, _⟩
    · exact h
    · exact absurd rfl h
  rw [hr', hMc', ← hMc, hsz]
  rfl
/-- A cut of a block of the function's own. -/
theorem cut_own [Dfr] [DfrOK] (g T k : Nat) (hk : k ≤ T) (W : World) : (Instr.sliceAt rowT (.slice (some ⟨g, 0, none⟩) T T) (some (.int .i64 (k : Int))) none none).run Tryd.prog W = .ok (.slice (if T = k then some ⟨g, 0, none⟩ else some ⟨g, k * 3, none⟩) (T - k) (T - k)) W := by
  have ht := tab.types.ti rowT _ rfl
  obtain ⟨ie, hie, hsz, _⟩ := (tab.types.ti 28 _ rfl).info
  obtain ⟨M, hr, hM, hM2⟩ := slice_run ht rfl hie (some ⟨g, 0, none⟩) (lo := some (.int .i64 (k : Int))) (hi := none) (mx := none) (l := (k : Int)) (h := (T : Int)) (len := T) (cap := T) (.inr ⟨_, rfl⟩) (.inl ⟨rfl, rfl⟩) (.inl rfl) (by omega) (by omega) (by omega) (Nat.le_refl _) W
  have hMc : M = T := by
    rcases hM2 with ⟨_, h⟩ | ⟨h, _⟩
    · exact h
    · exact absurd rfl h
  subst hMc
  rw [hr, hsz]
  simp only [Int.toNat_natCast, Option.map_some]
  congr 3
  rw [add_off, Nat.zero_add]
/-- A copy into a cut of a block of the function's own. -/
theorem copy_into [Dfr] {P : Program} {dT sT ty g T k tid : Nat} {W : World} {cur : Array Value} {n : Nat} {v : Value} {news : List Value} (hg : W.heap[g]? = some (.cells cur tid (0, 0))) (hc : cur.size = T * 3) (hn : news.length = n * 3) (hk : k ≤ T) (hle : n ≤ T - k)
    (h : ∀ (o dLen dCap tid : Nat) (cur : Array Value), W.heap[g]? = some (.cells cur tid (0, 0)) → n ≤ dLen → o + n * 3 ≤ cur.size →
      (Builtin.copy_ #[dT, sT] ty #[.slice (some ⟨g, o, none⟩) dLen dCap, v]).run P W = .ok (goInt n) (W.setRow g (cur.toList.take o ++ news ++ cur.toList.drop (o + news.length)).toArray)) :
    (Builtin.copy_ #[dT, sT] ty #[.slice (if T = k then some ⟨g, 0, none⟩ else some ⟨g, k * 3, none⟩) (T - k) (T - k), v]).run P W = .ok (goInt n) (W.setRow g (cur.toList.take (k * 3) ++ news ++ cur.toList.drop (k * 3 + news.length)).toArray) := by
  by_cases e : T = k
  · rw [if_pos e]
    have h0 : n = 0 := by omega
    subst h0
    have hnil : news = [] := List.eq_nil_of_length_eq_zero (by omega)
    subst hnil
    rw [h 0 _ _ tid cur hg (Nat.zero_le _) (by omega)]
    simp
  · rw [if_neg e]
    exact h (k * 3) _ _ tid cur hg hle (by omega)
/-- Three rows laid one behind the other over zeros. -/
theorem three [Dfr] {α : Type} (Z a b c : List α) (h : Z.length = a.length + b.length + c.length) :
    let L1 := Z.take 0 ++ a ++ Z.drop (0 + a.length)
    let L2 := L1.take a.length ++ b ++ L1.drop (a.length + b.length)
    L2.take (a.length + b.length) ++ c ++ L2.drop (a.length + b.length + c.length) = a ++ b ++ c := by
  intro L1 L2
  have h1 : L1 = a ++ Z.drop a.length := by simp [L1]
  have h2 : L2 = a ++ b ++ Z.drop (a.length + b.length) := by
    simp only [L2, h1]
    rw [List.take_left' rfl, ← List.drop_drop, List.drop_left' rfl, List.drop_drop]
  rw [h2, List.take_left' (by simp), List.drop_eq_nil_of_le (by simp; omega), List.append_nil]
theorem size_calls [Dfr] [DfrOK] {l : List Nd} {r : Int} (h : row_Size l = some r) {W : World} {F : Nat → Prop} {v : Value} (hF : ∀ b, F b → b < W.heap.size) (hg : GlobOK E F W) (hc : Cl F W (.slice 28 NdY) l [v]) :
    Calls Tryd.prog 24 #[v] W fun e w' => e = .returned (.int .i64 r) ∧ Kept (fun _ => False) W w' := by
  obtain ⟨q, hq⟩ := ((row_Size_lim l).iff _).1 h
  obtain ⟨hf, hct⟩ := run_sound envOK q 24 l r hq
  have hFr : ∀ b, Fr.F ⟨fun _ => none, fun _ => none⟩ F b → F b := fun b h => by
    rcases h with h | ⟨d, h⟩ | ⟨n, l, h⟩
    · exact h
    · cases h
    · cases h
  have hst : Step F (Fr.F ⟨fun _ => none, fun _ => none⟩ F) W W := ⟨fun _ _ _ => rfl, fun b h => .inl (hFr b h)⟩
  refine (hct W F (fun _ => False) ⟨fun _ => none, fun _ => none⟩ [v] ⟨.cons (Cl.step hst hc) .nil, fun _ => rfl, fun n b l h => (by cases h), fun n n' b l l' h => (by cases h), fun b h => ⟨hF b h, fun h => h⟩, hg.step hst⟩).mono ?_
  rintro e w' ⟨v, rfl, hk, hr⟩
  obtain ⟨T, hT⟩ := hr 0
  have hv : v = .int .i64 r := hT.rel
  exact ⟨by rw [hv], hk⟩
theorem make_row [Dfr] [DfrOK] (n : Nat) (hn : n ≤ 5000000) : ∃ Z : Array Value, Z.size = n * 3 ∧ ∀ W : World, (Instr.makeSlice rowT (.int .i64 (n : Int)) (.int .i64 (n : Int))).run Tryd.prog W = .ok (.slice (some ⟨W.heap.size, 0, none⟩) n n) (W.alloc (.cells Z 28)) := by
  obtain ⟨ie, hie, hsz, hb, z, hz, hzs, _⟩ := (tab.types.ti 28 _ rfl).info
  refine ⟨madeCells z.cells (n * 3), by simp [madeCells], fun W => ?_⟩
  have h := run_makeSlice W (P := Tryd.prog) rowT 28 ie z Tryd.underlying22 hie hz .i64 .i64 (n : Int) (n : Int) (by omega) (Int.le_refl _) (by rw [hsz]; show (n : Int).toNat * 3 ≤ _; omega) (by rw [hb]; show ((32 : Nat) : Int) * (n : Int) ≤ _; omega) (by omega)
  rw [hsz] at h
  exact h
theorem Els.append [Dfr] {F : Nat → Prop} {w : World} {t : Ty} {xs ys : List t.den} {a b : List Value} (ha : Els F w t xs a) (hb : Els F w t ys b) : Els F w t (xs ++ ys) (a ++ b) := by
  refine ⟨by rw [List.length_append, List.length_append, ha.len, hb.len, Nat.add_mul], fun v hv => ?_, fun i x hi => ?_⟩
  · rcases List.mem_append.1 hv with h | h
    · exact ha.one v h
    · exact hb.one v h
  · rw [List.getElem?_append] at hi
    split at hi
    · rename_i hlt
      obtain ⟨ds, h1, h2⟩ := ha.el i x hi
      refine ⟨ds, h1, fun j z hj => ?_⟩
      have := h2 j z hj
      have hl := (List.getElem?_eq_some_iff.1 this).1
      rw [List.getElem?_append_left hl]
      exact this
    · rename_i hge
      obtain ⟨ds, h1, h2⟩ := hb.el _ x hi
      refine ⟨ds, h1, fun j z hj => ?_⟩
      have := h2 j z hj
      have hm : xs.length * t.sz ≤ i * t.sz := Nat.mul_le_mul_right _ (by omega)
      rw [List.getElem?_append_right (by rw [ha.len]; omega), ha.len, ← this]
      congr 1
      rw [Nat.sub_mul]; omega
/-- What 'Put' hands back. -/
def PutEnd (F : Nat → Prop) (w : World) (out : List Nd) (e : Ending) (w' : World) : Prop :=
  ∃ g, ∃ cur : Array Value, e = .returned (.slice (some ⟨g, 0, none⟩) out.length out.length) ∧ Kept (fun _ => False) w w' ∧ w.heap.size ≤ g ∧ w'.heap[g]? = some (.cells cur 28 (0, 0)) ∧ Els F w NdY out cur.toList
end Go.Proofs.YtjogkjgpbeenfaaDoor.Sv

/- step.Put: its walk. -/
namespace Go.Proofs.YtjogkjgpbeenfaaDoor.Sv
open Go Go.Sv Go.Proofs Go.Rd Go.RowKit
set_option linter.unusedVariables false
set_option linter.unusedSimpArgs false
set_option maxRecDepth 100000
attribute [local go_sem] Oper.semAt_some
set_option maxHeartbeats 3200000 in
theorem put_walk_c [Dfr] [DfrOK] (w : World) (F : Nat → Prop) (l x : List Nd) (s0 s2 : Option Addr) (c0 c2 k n : Nat) (hF : ∀ b, F b → b < w.heap.size) (hg : GlobOK E F w)
    (hl : Cl F w (.slice 28 NdY) l [.slice s0 l.length c0]) (hx : Cl F w (.slice 28 NdY) x [.slice s2 x.length c2]) (hk : k < l.length) (hn : row_Size (l.drop k) = some (n : Int)) (hn1 : 0 < n) (hn2 : k + n ≤ l.length) (hll : l.length ≤ 1000000) (hxl : x.length ≤ 1000000) :
    Calls Tryd.prog 10 #[.slice s0 l.length c0, .int .i64 (k : Int), .slice s2 x.length c2] w (PutEnd F w (l.take k ++ x ++ l.drop (k + n))) := by
  have h0 : (0 : Int) ≤ (k : Int) := by omega
  have h1 : (k : Int) < (l.length : Int) := by omega
  have hs : (Tryd.prog.info? 28).map (·.size) = some NdY.sz := by kernel_rfl
  obtain ⟨vA, hA, clA⟩ := cut_run hl (lo := some (.int .i64 (k : Int))) (hi := none) (l := (k : Int)) (h := (l.length : Int)) (.inr ⟨_, rfl⟩) (.inl ⟨rfl, rfl⟩) h0 (by omega) (Int.le_refl _)
  obtain ⟨vB, hB, clB⟩ := cut_run hl (lo := none) (hi := some (.int .i64 (k : Int))) (l := 0) (h := (k : Int)) (.inl ⟨rfl, rfl⟩) (.inr ⟨_, rfl⟩) (Int.le_refl _) h0 (by omega)
  obtain ⟨vC, hC, clC⟩ := cut_run hl (lo := some (.int .i64 ((k : Int) + (n : Int)))) (hi := none) (l := (k : Int) + (n : Int)) (h := (l.length : Int)) (.inr ⟨_, rfl⟩) (.inl ⟨rfl, rfl⟩) (by omega) (by omega) (Int.le_refl _)
  have eA : cut l (k : Int) (l.length : Int) = l.drop k := by rw [cut_nat]; simp
  have eB : cut l 0 (k : Int) = l.take k := by rw [show (0 : Int) = ((0 : Nat) : Int) from rfl, cut_nat]; simp
  have eC : cut l ((k : Int) + (n : Int)) (l.length : Int) = l.drop (k + n) := by rw [← Int.natCast_add, cut_nat]; simp
  rw [eA] at clA
  rw [eB] at clB
  rw [eC] at clC
  obtain ⟨Z, hZ, hmk⟩ := make_row (l.length - n + x.length) (by omega)
  have e2 : ((l.length - n + x.length : Nat) : Int) = ((l.length - n : Nat) : Int) + (x.length : Int) := by omega
  rw [e2] at hmk
  obtain ⟨nB, EB, hcB⟩ := copy_any (P := Tryd.prog) (dT := rowT) (sT := rowT) (ty := 3) Tryd.underlying22 hs clB
  obtain ⟨nX, EX, hcX⟩ := copy_any (P := Tryd.prog) (dT := rowT) (sT := rowT) (ty := 3) Tryd.underlying22 hs hx
  obtain ⟨nC, EC, hcC⟩ := copy_any (P := Tryd.prog) (dT := rowT) (sT := rowT) (ty := 3) Tryd.underlying22 hs clC
  have w1 : IntKind.i64.wrap ((l.length : Int) - (n : Int)) = ((l.length - n : Nat) : Int) := by rw [show ((l.length : Int) - (n : Int)) = ((l.length - n : Nat) : Int) by omega]; exact wrap_nat (by omega)
  have w2 : IntKind.i64.wrap (((l.length - n : Nat) : Int) + (x.length : Int)) = ((l.length - n : Nat) : Int) + (x.length : Int) := by rw [← e2]; exact wrap_nat (by omega)
  have w3 : IntKind.i64.wrap ((k : Int) + (x.length : Int)) = (k : Int) + (x.length : Int) := by rw [← Int.natCast_add]; exact wrap_nat (by omega)
  have w4 : IntKind.i64.wrap ((k : Int) + (n : Int)) = (k : Int) + (n : Int) := by rw [← Int.natCast_add]; exact wrap_nat (by omega)
  have hnz : ¬ (n : Int) = 0 := by omega
  go_enter Tryd.func10, Tryd.ntmps10
  go_wp2_with (go_at_fn 24)
  refine (size_calls hn hF hg clA).mono ?_
  rintro e W ⟨rfl, hkept⟩
  obtain ⟨vO, hvO, hmO⟩ : ∃ vO, Value.slice (some ⟨W.heap.size, 0, none⟩) (l.length - n + x.length) (l.length - n + x.length) = vO ∧
      (Instr.makeSlice rowT (.int .i64 (((l.length - n : Nat) : Int) + (x.length : Int))) (.int .i64 (((l.length - n : Nat) : Int) + (x.length : Int)))).run Tryd.prog W = .ok vO (W.alloc (.cells Z 28)) := ⟨_, rfl, hmk W⟩
  clear hmk
  obtain ⟨d1, hd1, hD1⟩ : ∃ d1, Value.slice (if l.length - n + x.length = k then some ⟨W.heap.size, 0, none⟩ else some ⟨W.heap.size, k * 3, none⟩) (l.length - n + x.length - k) (l.length - n + x.length - k) = d1 ∧
      ∀ W', (Instr.sliceAt rowT vO (some (.int .i64 (k : Int))) none none).run Tryd.prog W' = .ok d1 W' := ⟨_, rfl, fun W' => by rw [← hvO]; exact cut_own _ _ _ (by omega) W'⟩
  obtain ⟨d2, hd2, hD2⟩ : ∃ d2, Value.slice (if l.length - n + x.length = k + x.length then some ⟨W.heap.size, 0, none⟩ else some ⟨W.heap.size, (k + x.length) * 3, none⟩) (l.length - n + x.length - (k + x.length)) (l.length - n + x.length - (k + x.length)) = d2 ∧
      ∀ W', (Instr.sliceAt rowT vO (some (.int .i64 ((k : Int) + (x.length : Int)))) none none).run Tryd.prog W' = .ok d2 W' := ⟨_, rfl, fun W' => by rw [← hvO, ← Int.natCast_add]; exact cut_own _ _ _ (by omega) W'⟩
  have lB : nB.length = k * 3 := by rw [EB.len, List.length_take, Nat.min_eq_left (by omega)]; rfl
  have lX : nX.length = x.length * 3 := EX.len
  have lC : nC.length = (l.length - (k + n)) * 3 := by rw [EC.len, List.length_drop]; rfl
  have tB : (l.take k).length = k := by rw [List.length_take, Nat.min_eq_left (by omega)]
  have tC : (l.drop (k + n)).length = l.length - (k + n) := List.length_drop
  go_wp2
  generalize hW1 : W.alloc (.cells Z 28) = W1
  have k1 : Kept (fun _ => False) w W1 := by rw [← hW1]; exact hkept.alloc _
  have g1 : W1.heap[W.heap.size]? = some (.cells Z 28 (0, 0)) := by rw [← hW1]; simp [-World.alloc_eq, World.alloc]
  have hC1 : (Builtin.copy_ #[rowT, rowT] 3 #[vO, vB]).run Tryd.prog W1 = .ok (goInt (l.take k).length) (W1.setRow W.heap.size (Z.toList.take 0 ++ nB ++ Z.toList.drop (0 + nB.length)).toArray) := by
    rw [← hvO]
    exact hcB W1 (fun b hb => k1.block b hb (fun h => h)) W.heap.size 0 _ _ _ Z g1 (by rw [tB]; omega) (by rw [tB, hZ]; show 0 + k * 3 ≤ _; omega)
  rw [hC1]
  generalize hW2 : W1.setRow W.heap.size _ = W2
  have k2 : Kept (fun _ => False) w W2 := by rw [← hW2]; exact k1.setRow (.inl hkept.size) _
  have g2 : W2.heap[W.heap.size]? = some (.cells (Z.toList.take 0 ++ nB ++ Z.toList.drop (0 + nB.length)).toArray 28 (0, 0)) := by rw [← hW2]; exact setRow_heap W1 W.heap.size Z _ 28 _ g1
  go_wp2
  generalize hY1 : (Z.toList.take 0 ++ nB ++ Z.toList.drop (0 + nB.length)).toArray = Y1 at *
  have z1 : Y1.size = (l.length - n + x.length) * 3 := by rw [← hY1]; simp [lB]; omega
  have hC2 : (Builtin.copy_ #[rowT, rowT] 3 #[d1, .slice s2 x.length c2]).run Tryd.prog W2 = .ok (goInt x.length) (W2.setRow W.heap.size (Y1.toList.take (k * 3) ++ nX ++ Y1.toList.drop (k * 3 + nX.length)).toArray) := by
    rw [← hd1]
    exact copy_into g2 z1 lX (by omega) (by omega) fun o dLen dCap tid cur hc hle hfit => hcX W2 (fun b hb => k2.block b hb (fun h => h)) W.heap.size o dLen dCap tid cur hc hle hfit
  rw [hC2]
  generalize hW3 : W2.setRow W.heap.size _ = W3
  have k3 : Kept (fun _ => False) w W3 := by rw [← hW3]; exact k2.setRow (.inl hkept.size) _
  have g3 : W3.heap[W.heap.size]? = some (.cells (Y1.toList.take (k * 3) ++ nX ++ Y1.toList.drop (k * 3 + nX.length)).toArray 28 (0, 0)) := by rw [← hW3]; exact setRow_heap W2 W.heap.size Y1 _ 28 _ g2
  generalize hY2 : (Y1.toList.take (k * 3) ++ nX ++ Y1.toList.drop (k * 3 + nX.length)).toArray = Y2 at *
  have z2 : Y2.size = (l.length - n + x.length) * 3 := by rw [← hY2]; simp [lX, z1]; omega
  have hC3 : ∀ W' : World, W'.heap = W3.heap → (Builtin.copy_ #[rowT, rowT] 3 #[d2, vC]).run Tryd.prog W' = .ok (goInt (l.drop (k + n)).length) (W'.setRow W.heap.size (Y2.toList.take ((k + x.length) * 3) ++ nC ++ Y2.toList.drop ((k + x.length) * 3 + nC.length)).toArray) := fun W' hW' => by
    rw [← hd2]
    exact copy_into (by rw [hW']; exact g3) z2 EC.len (by omega) (by rw [tC]; omega) fun o dLen dCap tid cur hc hle hfit => hcC W' (fun b hb => by rw [hW']; exact k3.block b hb (fun h => h)) W.heap.size o dLen dCap tid cur hc hle hfit
  have hC4 := hC3 W3.drew rfl
  clear hC3
  go_wp2
  go_region_held3 (fun w' => True) (trivial) (fail)
  go_wp2
  go_ret
  have hlen : (l.take k ++ x ++ l.drop (k + n)).length = l.length - n + x.length := by rw [List.length_append, List.length_append, tB, tC]; omega
  have k4 : Kept (fun _ => False) w (W3.drew.setRow W.heap.size (Y2.toList.take ((k + x.length) * 3) ++ nC ++ Y2.toList.drop ((k + x.length) * 3 + nC.length)).toArray) := k3.drew.setRow (.inl hkept.size) _
  refine ⟨W.heap.size, (Y2.toList.take ((k + x.length) * 3) ++ nC ++ Y2.toList.drop ((k + x.length) * 3 + nC.length)).toArray, ?_, ?_, hkept.size, ?_, ?_⟩
  · rw [hlen, hvO]; rfl
  · simpa [lC] using k4
  · have := setRow_heap W3.drew W.heap.size Y2 (Y2.toList.take ((k + x.length) * 3) ++ nC ++ Y2.toList.drop ((k + x.length) * 3 + nC.length)).toArray 28 (0, 0) g3
    simpa [lC] using this
  · have h3 := three Z.toList nB nX nC (by rw [Array.length_toList, hZ, lB, lX, lC]; omega)
    have hY : (Y2.toList.take ((k + x.length) * 3) ++ nC ++ Y2.toList.drop ((k + x.length) * 3 + nC.length)).toArray.toList = nB ++ nX ++ nC := by
      rw [← h3, ← hY2, ← hY1]
      simp only [List.toList_toArray]
      rw [show (k + x.length) * 3 = nB.length + nX.length by rw [lB, lX]; omega, show k * 3 = nB.length by rw [lB]]
    rw [hY]
    exact (EB.append EX).append EC
set_option maxHeartbeats 3200000 in
theorem put_walk_lo [Dfr] [DfrOK] (w : World) (F : Nat → Prop) (l : List Nd) (s0 s2 : Option Addr) (c0 c2 xn : Nat) (k : Int)
    (hl : Cl F w (.slice 28 NdY) l [.slice s0 l.length c0]) (hk : k < 0) (hll : l.length ≤ 1000000) :
    Calls Tryd.prog 10 #[.slice s0 l.length c0, .int .i64 k, .slice s2 xn c2] w (PutEnd F w l) := by
  have h0 : ¬ (0 : Int) ≤ k := by omega
  have hs : (Tryd.prog.info? 28).map (·.size) = some NdY.sz := by kernel_rfl
  obtain ⟨Z, hZ, hmk⟩ := make_row l.length (by omega)
  obtain ⟨nB, EB, hcB⟩ := copy_any (P := Tryd.prog) (dT := rowT) (sT := rowT) (ty := 3) Tryd.underlying22 hs hl
  have lB : nB.length = l.length * 3 := EB.len
  have hkept := Kept.refl (fun _ => False) w
  obtain ⟨vO, hvO, hmO⟩ : ∃ vO, Value.slice (some ⟨w.heap.size, 0, none⟩) l.length l.length = vO ∧
      (Instr.makeSlice rowT (.int .i64 (l.length : Int)) (.int .i64 (l.length : Int))).run Tryd.prog w = .ok vO (w.alloc (.cells Z 28)) := ⟨_, rfl, hmk w⟩
  clear hmk
  go_enter Tryd.func10, Tryd.ntmps10
  go_wp2
  generalize hW1 : w.alloc (.cells Z 28) = W1
  have k1 : Kept (fun _ => False) w W1 := by rw [← hW1]; exact hkept.alloc _
  have g1 : W1.heap[w.heap.size]? = some (.cells Z 28 (0, 0)) := by rw [← hW1]; simp [-World.alloc_eq, World.alloc]
  have hY : (Z.toList.take 0 ++ nB ++ Z.toList.drop (0 + nB.length)).toArray = nB.toArray := by
    rw [List.drop_eq_nil_of_le (by rw [Array.length_toList, hZ, lB]; omega)]
    simp
  have hC1 : (Builtin.copy_ #[rowT, rowT] 3 #[vO, .slice s0 l.length c0]).run Tryd.prog W1 = .ok (goInt l.length) (W1.setRow w.heap.size nB.toArray) := by
    have h := hcB W1 (fun b hb => k1.block b hb (fun h => h)) w.heap.size 0 l.length l.length _ Z g1 (Nat.le_refl _) (by rw [hZ]; show 0 + l.length * 3 ≤ _; omega)
    rw [hY] at h
    rw [← hvO]
    exact h
  rw [hC1]
  go_wp2
  go_ret
  refine ⟨w.heap.size, nB.toArray, by rw [hvO]; rfl, k1.setRow (.inl hkept.size) _, hkept.size, setRow_heap W1 w.heap.size Z _ 28 _ g1, by rw [List.toList_toArray]; exact EB⟩
set_option maxHeartbeats 3200000 in
theorem put_walk_hi [Dfr] [DfrOK] (w : World) (F : Nat → Prop) (l : List Nd) (s0 s2 : Option Addr) (c0 c2 xn : Nat) (k : Int)
    (hl : Cl F w (.slice 28 NdY) l [.slice s0 l.length c0]) (hk : (l.length : Int) ≤ k) (hll : l.length ≤ 1000000) :
    Calls Tryd.prog 10 #[.slice s0 l.length c0, .int .i64 k, .slice s2 xn c2] w (PutEnd F w l) := by
  have h0 : (0 : Int) ≤ k := by omega
  have h0b : ¬ k < 0 := by omega
  have h1 : ¬ k < (l.length : Int) := by omega
  have hs : (Tryd.prog.info? 28).map (·.size) = some NdY.sz := by kernel_rfl
  obtain ⟨Z, hZ, hmk⟩ := make_row l.length (by omega)
  obtain ⟨nB, EB, hcB⟩ := copy_any (P := Tryd.prog) (dT := rowT) (sT := rowT) (ty := 3) Tryd.underlying22 hs hl
  have lB : nB.length = l.length * 3 := EB.len
  have hkept := Kept.refl (fun _ => False) w
  obtain ⟨vO, hvO, hmO⟩ : ∃ vO, Value.slice (some ⟨w.heap.size, 0, none⟩) l.length l.length = vO ∧
      (Instr.makeSlice rowT (.int .i64 (l.length : Int)) (.int .i64 (l.length : Int))).run Tryd.prog w = .ok vO (w.alloc (.cells Z 28)) := ⟨_, rfl, hmk w⟩
  clear hmk
  go_enter Tryd.func10, Tryd.ntmps10
  go_wp2
  generalize hW1 : w.alloc (.cells Z 28) = W1
  have k1 : Kept (fun _ => False) w W1 := by rw [← hW1]; exact hkept.alloc _
  have g1 : W1.heap[w.heap.size]? = some (.cells Z 28 (0, 0)) := by rw [← hW1]; simp [-World.alloc_eq, World.alloc]
  have hY : (Z.toList.take 0 ++ nB ++ Z.toList.drop (0 + nB.length)).toArray = nB.toArray := by
    rw [List.drop_eq_nil_of_le (by rw [Array.length_toList, hZ, lB]; omega)]
    simp
  have hC1 : (Builtin.copy_ #[rowT, rowT] 3 #[vO, .slice s0 l.length c0]).run Tryd.prog W1 = .ok (goInt l.length) (W1.setRow w.heap.size nB.toArray) := by
    have h := hcB W1 (fun b hb => k1.block b hb (fun h => h)) w.heap.size 0 l.length l.length _ Z g1 (Nat.le_refl _) (by rw [hZ]; show 0 + l.length * 3 ≤ _; omega)
    rw [hY] at h
    rw [← hvO]
    exact h
  rw [hC1]
  go_wp2
  go_ret
  refine ⟨w.heap.size, nB.toArray, by rw [hvO]; rfl, k1.setRow (.inl hkept.size) _, hkept.size, setRow_heap W1 w.heap.size Z _ 28 _ g1, by rw [List.toList_toArray]; exact EB⟩
set_option maxHeartbeats 3200000 in
theorem put_walk_no [Dfr] [DfrOK] (w : World) (F : Nat → Prop) (l : List Nd) (s0 s2 : Option Addr) (c0 c2 xn k : Nat) (hF : ∀ b, F b → b < w.heap.size) (hg : GlobOK E F w)
    (hl : Cl F w (.slice 28 NdY) l [.slice s0 l.length c0]) (hk : k < l.length) (hn : row_Size (l.drop k) = some 0) (hll : l.length ≤ 1000000) :
    Calls Tryd.prog 10 #[.slice s0 l.length c0, .int .i64 (k : Int), .slice s2 xn c2] w (PutEnd F w l) := by
  have h0 : (0 : Int) ≤ (k : Int) := by omega
  have h1 : (k : Int) < (l.length : Int) := by omega
  obtain ⟨vA, hA, clA⟩ := cut_run hl (lo := some (.int .i64 (k : Int))) (hi := none) (l := (k : Int)) (h := (l.length : Int)) (.inr ⟨_, rfl⟩) (.inl ⟨rfl, rfl⟩) h0 (by omega) (Int.le_refl _)
  have eA : cut l (k : Int) (l.length : Int) = l.drop k := by rw [cut_nat]; simp
  rw [eA] at clA
  have hs : (Tryd.prog.info? 28).map (·.size) = some NdY.sz := by kernel_rfl
  obtain ⟨Z, hZ, hmk⟩ := make_row l.length (by omega)
  obtain ⟨nB, EB, hcB⟩ := copy_any (P := Tryd.prog) (dT := rowT) (sT := rowT) (ty := 3) Tryd.underlying22 hs hl
  have lB : nB.length = l.length * 3 := EB.len
  go_enter Tryd.func10, Tryd.ntmps10
  go_wp2_with (go_at_fn 24)
  refine (size_calls hn hF hg clA).mono ?_
  rintro e W ⟨rfl, hkept⟩
  obtain ⟨vO, hvO, hmO⟩ : ∃ vO, Value.slice (some ⟨W.heap.size, 0, none⟩) l.length l.length = vO ∧
      (Instr.makeSlice rowT (.int .i64 (l.length : Int)) (.int .i64 (l.length : Int))).run Tryd.prog W = .ok vO (W.alloc (.cells Z 28)) := ⟨_, rfl, hmk W⟩
  clear hmk
  go_wp2
  generalize hW1 : W.alloc (.cells Z 28) = W1
  have k1 : Kept (fun _ => False) w W1 := by rw [← hW1]; exact hkept.alloc _
  have g1 : W1.heap[W.heap.size]? = some (.cells Z 28 (0, 0)) := by rw [← hW1]; simp [-World.alloc_eq, World.alloc]
  have hY : (Z.toList.take 0 ++ nB ++ Z.toList.drop (0 + nB.length)).toArray = nB.toArray := by
    rw [List.drop_eq_nil_of_le (by rw [Array.length_toList, hZ, lB]; omega)]
    simp
  have hC1 : (Builtin.copy_ #[rowT, rowT] 3 #[vO, .slice s0 l.length c0]).run Tryd.prog W1 = .ok (goInt l.length) (W1.setRow W.heap.size nB.toArray) := by
    have h := hcB W1 (fun b hb => k1.block b hb (fun h => h)) W.heap.size 0 l.length l.length _ Z g1 (Nat.le_refl _) (by rw [hZ]; show 0 + l.length * 3 ≤ _; omega)
    rw [hY] at h
    rw [← hvO]
    exact h
  rw [hC1]
  go_wp2
  go_ret
  refine ⟨W.heap.size, nB.toArray, by rw [hvO]; rfl, k1.setRow (.inl hkept.size) _, hkept.size, setRow_heap W1 W.heap.size Z _ 28 _ g1, by rw [List.toList_toArray]; exact EB⟩
end Go.Proofs.YtjogkjgpbeenfaaDoor.Sv

/- step.Put: its contract. -/
namespace Go.Proofs.YtjogkjgpbeenfaaDoor.Sv
open Go Go.Sv Go.Proofs Go.Rd Go.RowKit
set_option linter.unusedVariables false
set_option linter.unusedSimpArgs false
set_option maxRecDepth 100000
theorem sz_len [Dfr] (l : List Nd) : sz l ≤ l.length := by
  unfold sz
  cases h : P l with
  | none => simp
  | some q =>
    obtain ⟨t, r⟩ := q
    have e := (P_iff.1 h).2
    rw [e, List.length_append, T.len_row]
    simp
/-- A tree laid in another one's place. -/
def putR (l : List Nd) (k : Int) (x : List Nd) : List Nd :=
  if 0 ≤ k ∧ k < (l.length : Int) ∧ 0 < sz (l.drop k.toNat) then l.take k.toNat ++ x ++ l.drop (k.toNat + sz (l.drop k.toNat)) else l
def put_spec (l : List Nd) (k : Int) (x : List Nd) : Option (List Nd) := if l.length ≤ 1000000 ∧ x.length ≤ 1000000 then some (putR l k x) else none
/-- What is proved of 'Put' by hand. -/
class HasPut [Dfr] : Prop where
  put : ∀ l k x, step_Put_spec l k x = put_spec l k x
theorem put_calls [Dfr] [DfrOK] (w : World) (F : Nat → Prop) (l x : List Nd) (k : Int) (s0 s2 : Option Addr) (c0 c2 : Nat) (hF : ∀ b, F b → b < w.heap.size) (hg : GlobOK E F w)
    (hl : Cl F w (.slice 28 NdY) l [.slice s0 l.length c0]) (hx : Cl F w (.slice 28 NdY) x [.slice s2 x.length c2]) (hll : l.length ≤ 1000000) (hxl : x.length ≤ 1000000) :
    Calls Tryd.prog 10 #[.slice s0 l.length c0, .int .i64 k, .slice s2 x.length c2] w (PutEnd F w (putR l k x)) := by
  unfold putR
  by_cases h0 : k < 0
  · rw [if_neg (by omega)]
    exact put_walk_lo w F l s0 s2 c0 c2 x.length k hl h0 hll
  · obtain ⟨j, rfl⟩ := Int.eq_ofNat_of_zero_le (a := k) (by omega)
    by_cases h1 : j < l.length
    · have hd : (l.drop j).length ≤ 1000000 := by rw [List.length_drop]; omega
      have hsz := row_Size_s (l.drop j) (by omega)
      have hle := sz_len (l.drop j)
      rw [List.length_drop] at hle
      by_cases h2 : 0 < sz (l.drop j)
      · rw [if_pos ⟨by omega, by omega, by simpa using h2⟩]
        exact put_walk_c w F l x s0 s2 c0 c2 j (sz (l.drop j)) hF hg hl hx h1 hsz h2 (by omega) hll hxl
      · rw [if_neg (fun h => h2 (by simpa using h.2.2))]
        have : sz (l.drop j) = 0 := by omega
        rw [this] at hsz
        exact put_walk_no w F l s0 s2 c0 c2 x.length j hF hg hl h1 hsz hll
    · rw [if_neg (by omega)]
      exact put_walk_hi w F l s0 s2 c0 c2 x.length (j : Int) hl (by omega) hll
theorem put_contract [Dfr] [DfrOK] (l : List Nd) (k : Int) (x : List Nd) (r : List Nd) (h : put_spec l k x = some r) : Contract Tryd.prog E 10 (l, k, x) r := by
  unfold put_spec at h
  split at h
  · rename_i hc
    obtain ⟨hll, hxl⟩ := hc
    cases h
    intro w F0 G A vs hA
    obtain ⟨v0, v1, v2, rfl, h0, h1, h2⟩ : ∃ v0 v1 v2, vs = [v0, v1, v2] ∧ Cl (A.F F0) w (.slice 28 NdY) l [v0] ∧ v1 = .int .i64 k ∧ Cl (A.F F0) w (.slice 28 NdY) x [v2] := by
      have hr := hA.rel
      cases hr with
      | cons a hr => cases hr with
        | cons b hr => cases hr with
          | cons c hr => cases hr; exact ⟨_, _, _, rfl, a, b, c⟩
    subst h1
    have shape : ∀ {y : List Nd} {v : Value}, Cl (A.F F0) w (.slice 28 NdY) y [v] → ∃ s c, v = .slice s y.length c := fun h => by
      rw [Cl] at h
      obtain ⟨a, c, e, _⟩ := h
      exact ⟨a, c, (List.cons.inj e).1⟩
    obtain ⟨s0, c0, rfl⟩ := shape h0
    obtain ⟨s2, c2, rfl⟩ := shape h2
    have hF : ∀ b, A.F F0 b → b < w.heap.size := fun b hb => by
      rcases hb with hb | ⟨d, hb⟩ | ⟨n, l, hb⟩
      · exact (hA.f0 b hb).1
      · rw [hA.bx] at hb; cases hb
      · exact (hA.tgm n b l hb).2
    refine (put_calls w (A.F F0) l x k s0 s2 c0 c2 hF hA.glob h0 h2 hll hxl).mono ?_
    rintro e w' ⟨g, cur, rfl, hk, hg, hh, hE⟩
    have hgl : g < w'.heap.size := (Array.getElem?_eq_some_iff.1 hh).1
    refine ⟨_, rfl, ⟨hk.os, hk.tape, hk.output, hk.size, fun b hb _ => hk.block b hb (fun h => h), hk.drawn⟩, fun d => ⟨⟨fun _ => none, fun n => if n = tagOf d 0 0 then some (g, (putR l k x).length) else none⟩, ?_, fun _ => rfl, fun n b l h => ?_, fun n n' b l l' h h' => ?_⟩⟩
    · have S : Step (A.F F0) (Fr.F ⟨fun _ => none, fun n => if n = tagOf d 0 0 then some (g, (putR l k x).length) else none⟩ F0) w w' := by
        refine ⟨fun b hb hlt => hk.block b hlt (fun h => h), fun b hb => ?_⟩
        rcases hb with hb | ⟨d', hb⟩ | ⟨n, l', hb⟩
        · exact .inl (.inl hb)
        · cases hb
        · simp only at hb
          split at hb
          · cases hb; exact .inr hg
          · cases hb
      have hlen := hE.len
      refine .inr ⟨g, (putR l k x).length, if_pos rfl, rfl, (putR l k x).length, cur, rfl, hh, Nat.le_refl _, ?_, by rw [← Array.length_toList]; exact hlen, fun i y hy => ?_⟩
      · have : (putR l k x).length ≤ 3000000 := by
          unfold putR
          split
          · rw [List.length_append, List.length_append, List.length_take, List.length_drop]; omega
          · omega
        unfold maxLen; omega
      · obtain ⟨ds, hd, hj⟩ := hE.el i y hy
        refine ⟨ds, hd.step S, fun j u hu => ?_⟩
        have := hj j u hu
        rwa [Array.getElem?_toList] at this
    · simp only at h
      split at h
      · cases h; exact ⟨.inl hg, hgl⟩
      · cases h
    · simp only at h h'
      split at h
      · split at h'
        · rename_i e1 e2; rw [e1, e2]
        · cases h'
      · cases h
  · cases h
end Go.Proofs.YtjogkjgpbeenfaaDoor.Sv
