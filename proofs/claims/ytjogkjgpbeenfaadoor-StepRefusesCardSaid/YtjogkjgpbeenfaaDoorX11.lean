/- plot.Over: its contract. -/
import Derived.Test.YtjogkjgpbeenfaaDoorSvK
import Derived.Test.YtjogkjgpbeenfaaDoorEv9
import Derived.Test.YtjogkjgpbeenfaaDoorM11
import Derived.RangeFuncNested
import Derived.RangeFuncLeaves
import Derived.RangeFuncBox
import Derived.Shelf.Abstract
import Derived.WalkKit
import Derived.OwnWalkIn
import Derived.TacticsInMore
import Derived.LoopNIn
import Derived.LoopIn
import Derived.Maps.OwnIn
import Derived.Maps.Views
import Derived.Test.YtjogkjgpbeenfaaDoorM12
import Derived.Test.YtjogkjgpbeenfaaDoorSvH0
import Derived.Test.YtjogkjgpbeenfaaDoorW03r
namespace Go.Proofs.YtjogkjgpbeenfaaDoor.Sv
open Go Go.Sv Go.Proofs Go.Rd Go.RowKit Go.Shelf
set_option linter.unusedVariables false
set_option linter.unusedSimpArgs false
set_option maxRecDepth 100000
attribute [local go_sem] Oper.semAt_some
theorem go_wf [Dfr] {n : Int} (h : -9223372036854775808 ≤ n ∧ n ≤ 9223372036854775807) : (Lit.int .i64 n).wf = true := by
  simp [Lit.wf, IntKind.min, IntKind.max, IntKind.signed, IntKind.bits]
  omega
theorem spots_calls [Dfr] (n : Nat) (s : Option Addr) (len cap : Nat) (w : World) : CallsIn Fence.wide n Tryd.prog 61 #[.slice s len cap] w fun e w' =>
    e = .returned (.func (.func 80) #[] #[.pointer (some ⟨w.heap.size, 0, none⟩)]) ∧ w' = w.alloc (.cells #[.slice s len cap] 22) := by
  refine callsIn_of_wp Tryd.func61 rfl trivial ?_ rfl
  simp only [Tryd.ntmps61, List.size_toArray, List.length_cons, List.length_nil, Nat.reduceAdd, Nat.reduceSub, Array.replicate_succ, Array.replicate_zero, List.push_toArray, List.append_toArray, List.nil_append, List.cons_append]
  gi_wp2
  go_ret
  exact ⟨rfl, rfl⟩
/-- What comes: a node's place, the place above it, its point. -/
abbrev Spot := Int × Int × Nat × Nat
def spotV (x : Spot) : Array Value := #[.int .i64 x.1, .agg #[.complex .f64 x.2.2.1 x.2.2.2, .int .i64 x.2.1]]
def spotK (x : Spot) : Int × Int := (x.1, x.2.1)
/-- What the map holds. -/
def dat (pre : List Spot) : DataW Unit := pre.foldl (fun D x => D.put (.int .i64 x.1) (.lit (.int .i64 x.2.1))) (.map [])
theorem dat_snoc [Dfr] (pre : List Spot) (x : Spot) : dat (pre ++ [x]) = (dat pre).put (.int .i64 x.1) (.lit (.int .i64 x.2.1)) := by simp [dat]
/-- Each place, and the place above it. -/
def ysOf (n : Nat) (p : Nat → Int) : List (Int × Int) := (List.range n).map fun (i : Nat) => ((i : Int), p i)
theorem ysOf_succ [Dfr] (n : Nat) (p : Nat → Int) : ysOf (n + 1) p = ysOf n p ++ [((n : Int), p n)] := by simp [ysOf, List.range_succ]
theorem ysOf_len [Dfr] (n : Nat) (p : Nat → Int) : (ysOf n p).length = n := by simp [ysOf]
theorem isMap_dat [Dfr] (xs : List Spot) : Maps.IsMap (dat xs) := by
  have h : ∀ (l : List Spot) (D : DataW Unit), Maps.IsMap D → Maps.IsMap (l.foldl (fun D x => D.put (.int .i64 x.1) (.lit (.int .i64 x.2.1))) D) := by
    intro l
    induction l with
    | nil => exact fun D h => h
    | cons x l ih => exact fun D h => ih _ (h.put _ _)
  exact h xs _ Maps.isMap_empty
theorem dat_at [Dfr] (p : Nat → Int) : ∀ (n : Nat) (xs : List Spot), xs.map spotK = ysOf n p → ∀ i, i < n → Maps.has (dat xs) (.int .i64 (i : Int)) = true ∧ ∀ z, (dat xs).atKey (.int .i64 (i : Int)) z = .lit (.int .i64 (p i))
  | 0, xs, h, i, hi => absurd hi (by omega)
  | n + 1, xs, h, i, hi => by
    rw [ysOf_succ] at h
    obtain ⟨l1, l2, rfl, h1, h2⟩ := List.map_eq_append_iff.1 h
    obtain ⟨x, rfl, hx⟩ := List.map_eq_singleton_iff.1 h2
    have e1 : x.1 = (n : Int) := congrArg Prod.fst hx
    have e2 : x.2.1 = p n := congrArg Prod.snd hx
    rw [dat_snoc, e1, e2]
    by_cases hin : i = n
    · subst hin
      have hk : WideAt.IsKeyLit (.int .i64 (i : Int)) := trivial
      exact ⟨Maps.has_put_same (isMap_dat l1) hk _, fun z => Maps.atKey_put_same (isMap_dat l1) hk _ _⟩
    · have hne : Lit.int .i64 (i : Int) ≠ .int .i64 (n : Int) := fun e => hin (by injection e with _ e; omega)
      rw [Maps.has_put_other hne]
      refine ⟨(dat_at p n l1 h1 i (by omega)).1, fun z => ?_⟩
      rw [Maps.atKey_put_other hne]
      exact (dat_at p n l1 h1 i (by omega)).2 z
/-- What the iterator is asked for; w is a world of which the row is known, in all that comes of it. -/
def IterOK (w : World) (ys : List (Int × Int)) (s : Option Addr) (len cap : Nat) : Prop :=
  ∀ (l bl : Nat) (M : Nat → Prop) (J : List Spot → World → Prop) (W : World), Kept (fun b => w.heap.size ≤ b) w W → (∀ b, M b → w.heap.size ≤ b ∧ b < W.heap.size) → w.heap.size ≤ l → l < W.heap.size → W.heap[bl]? = some (.cells #[.slice s len cap] 22 (0, 0)) → ¬ M bl → bl ≠ l →
    (∀ pre A B, J pre A → Kept (fun k => W.heap.size ≤ k) A B → J pre B) →
    (∀ pre x W1, J pre W1 → (pre ++ [x]).map spotK <+: ys → W.heap.size ≤ W1.heap.size → YieldAt Fence.wide 3 Tryd.prog l (spotV x) W1 fun e W' => e = .returned (.bool true) ∧ J (pre ++ [x]) W' ∧ Kept (fun k => M k ∨ k = l) W1 W') →
    J [] W → CallsIn Fence.wide 3 Tryd.prog 80 (#[.func (.yield l) #[] #[]] ++ #[.pointer (some ⟨bl, 0, none⟩)]) W fun e W' => (∃ v, e = .returned v) ∧ ∃ xs, xs.map spotK = ys ∧ J xs W'
theorem ownsMap_kept [Dfr] {w w' : World} {P : Program} {k : TypeId} {R : Value → Option (DataW Unit × List MemPlace)} {b n : Nat} {D : DataW Unit} {G : Nat → Prop} (h : w.ownsMap P k R b n D) (hk : Kept G w w') (hG : ¬ G b) : w'.ownsMap P k R b n D := by
  obtain ⟨es, ck, hh, hrest⟩ := h
  exact ⟨es, ck, (hk.block _ (Array.getElem?_eq_some_iff.1 hh).1 hG).trans hh, hrest⟩
theorem over_walk [Dfr] (n : Nat) (p : Nat → Int) (ov : Nat → List Nat) (hp : ∀ i, i < n → (p i = -1 ∧ ov i = []) ∨ (0 ≤ p i ∧ p i < i ∧ ov i = ov (p i).toNat ++ [(p i).toNat])) (hn : n ≤ 1000000) (s : Option Addr) (len cap : Nat) (w : World) (hiter : IterOK w (ysOf n p) s len cap) (k : Nat) (hk : k < n) :
    CallsIn Fence.wide 4 Tryd.prog 43 #[.slice s len cap, .int .i64 (k : Int)] w fun e w' => ∃ v m, e = .returned v ∧ w'.ownsRow w.heap.size 3 1 v m ((ov k).map fun (i : Nat) => Value.int .i64 (i : Int)) ∧ Kept (fun _ => False) w w' := by
  have hys : ∀ y ∈ ysOf n p, (Lit.int .i64 y.1).wf = true ∧ (Lit.int .i64 y.2).wf = true := fun y hy => by
    obtain ⟨i, hi, rfl⟩ := List.mem_map.1 hy
    have hi := List.mem_range.1 hi
    refine ⟨go_wf ⟨?_, ?_⟩, go_wf ⟨?_, ?_⟩⟩ <;> rcases hp i hi with ⟨h, _⟩ | ⟨h1, h2, _⟩ <;> simp only <;> omega
  have hyl : (ysOf n p).length ≤ 1000000 := by rw [ysOf_len]; exact hn
  have hmm := @run_makeMap Tryd.prog
  refine callsIn_of_wp_marks Tryd.func43 rfl trivial ?_ rfl
  simp only [Tryd.ntmps43, List.size_toArray, List.length_cons, List.length_nil, Nat.reduceAdd, Nat.reduceSub, Array.replicate_succ, Array.replicate_zero, List.push_toArray, List.append_toArray, List.nil_append, List.cons_append]
  gi_wp2_with fail
  refine ⟨trivial, (spots_calls _ _ _ _ _).mono ?_⟩
  rintro e w' ⟨rfl, rfl⟩
  gi_wp2_with fail
  have hm0 := World.ownsMap_made w Tryd.prog 3 (plainElem (H := Unit) Tryd.prog 3)
  have bS := (Boxed.new (w.alloc (.map #[] 0)) 80 (.map (some w.heap.size))).alloc (.cells #[.slice s len cap] 22)
  have bN := Boxed.new ((w.alloc (.map #[] 0)).alloc (.cells #[.map (some w.heap.size)] 80)) 22 (.slice s len cap)
  simp only [World.size_alloc] at bS bN
  obtain ⟨W0, hW0⟩ : ∃ W0, (((w.alloc (.map #[] 0)).alloc (.cells #[.map (some w.heap.size)] 80)).alloc (.cells #[.slice s len cap] 22)) = W0 := ⟨_, rfl⟩
  have hs0 : W0.heap.size = w.heap.size + 3 := by rw [← hW0]; simp
  have hm1 : W0.ownsMap Tryd.prog 3 (plainElem (H := Unit) Tryd.prog 3) w.heap.size 0 (.map []) := by rw [← hW0]; exact (hm0.alloc _).alloc _
  rw [hW0] at bS bN ⊢
  refine range_law (n := 3) (encs := spotV) (Ok := fun pre => pre.map spotK <+: ysOf n p) (Fin := fun xs => xs.map spotK = ysOf n p) (M := fun b => b = w.heap.size) rfl (enters_of Tryd.func80 (by kernel_rfl) rfl) (fun _ => rfl) (fun b hb => by omega)
    (fun pre W => Boxed W (w.heap.size + 1) 80 (.map (some w.heap.size)) ∧ W.ownsMap Tryd.prog 3 (plainElem (H := Unit) Tryd.prog 3) w.heap.size pre.length (dat pre)) ?hI ⟨bS, hm1⟩ ?iter ?round ?done
  case hI =>
    rintro pre W W' ⟨h1, h2⟩ hk
    refine ⟨(hk.block _ h1.lt (by omega)).trans h1, ?_⟩
    obtain ⟨es, ck, hh, hrest⟩ := h2
    exact ⟨es, ck, (hk.block _ (Array.getElem?_eq_some_iff.1 hh).1 (by omega)).trans hh, hrest⟩
  case iter =>
    intro l J W hk hl hlW hJ hy h0
    have hkw : Kept (fun b => w.heap.size ≤ b) w W0 := by
      rw [← hW0]
      exact (((Kept.refl _ w).alloc _).alloc _).alloc _
    have hsz := hk.size
    refine hiter l (w.heap.size + 1 + 1) _ J W (hkw.trans hk fun x h => h.elim) (fun b hb => by subst hb; omega) (by omega) hlW ((hk.block _ (by omega) fun h => h).trans bN) (by omega) (by omega) hJ hy h0
  case round =>
    rintro l pre ⟨x1, x2, x3, x4⟩ W hl hlW ⟨h1, h2⟩ hok
    simp only [spotV]
    have hsc := fun (a : Addr) (re im : Nat) (w : World) => run_store Tryd.prog w a (.complex .f64 re im) .plain rfl
    have hcell := h1.cell
    gi_wp2_with fail
    refine ⟨kept_alloc .., fun W2 hk2 => ?_⟩
    have hb2 : W2.heap[W.heap.size]? = some (.cells #[.complex .f64 x3 x4, .int .i64 x2] 85 (0, 0)) := (hk2.block _ (by simp) (by omega)).trans (World.alloc_heap_new W _)
    have hc2 : W2.cell? ⟨W.heap.size, 1, none⟩ = some (.int .i64 x2) := by simp [World.cell?, hb2]
    have h1b : Boxed W2 (w.heap.size + 1) 80 (.map (some w.heap.size)) := (hk2.block _ (by have := (Boxed.lt h1); simp; omega) (by omega)).trans ((heap_push_lt W _ _ h1.lt).trans h1)
    have hcell2 := h1b.cell
    have hown : W2.ownsMap Tryd.prog 3 (plainElem (H := Unit) Tryd.prog 3) w.heap.size pre.length (dat pre) := by
      obtain ⟨es, ck, hh, hrest⟩ := h2
      have hlt := (Array.getElem?_eq_some_iff.1 hh).1
      exact ⟨es, ck, (hk2.block _ (by simp; omega) (by omega)).trans ((heap_push_lt W _ _ hlt).trans hh), hrest⟩
    have hmem : spotK (x1, x2, x3, x4) ∈ ysOf n p := hok.subset (by simp)
    obtain ⟨wf1, wf2⟩ := hys _ hmem
    have hplen : pre.length ≤ 1000000 := by
      have := hok.length_le
      simp at this; omega
    have hkey := Maps.keyOf_int_mk Tryd.underlying3 wf1
    clear hcell hsc
    gi_wp2_with (gi_at_mapUpdate; refine mapUpdate_kept _ rfl _ _ _ 80 rfl 3 3 (Maps.int_keyed Tryd.underlying3) Tryd.underlying80 _ w.heap.size pre.length _ rfl hown (by unfold maxLen; omega) _ _ _ rfl rfl hkey _ [] (plainElem_int Tryd.underlying3 wf2) ?_; intro w1 hown1 hgrow1)
    refine And.intro ((hgrow1.block _ (Boxed.lt h1b) (by omega)).trans h1b) ?_
    rw [dat_snoc]
    exact hown1
  case done =>
    rintro D xs W hD hfin ⟨h1, h2⟩ hK hkept
    have hcell := h1.cell
    have hat := dat_at p n xs hfin
    have hwf : ∀ i, i < n → (Lit.int .i64 ((i : Nat) : Int)).wf = true := fun i hi => go_wf ⟨by omega, by omega⟩
    have hkey := Maps.keyOf_int_mk Tryd.underlying3 (hwf k hk)
    gi_wp2_with (first
      | (gi_at_lookup; refine wpListIn_lookup_own_ok_int W rfl _ _ 80 rfl 3 3 .i64 (Maps.int_keyed Tryd.underlying3) Tryd.underlying80 Tryd.underlying3 (Tryd.zeroValue3 _) w.heap.size xs.length (dat xs) rfl h2 (.int .i64 k) _ rfl hkey ?_; intro c hc hwc; rw [(hat k hk).1]; rw [(hat k hk).2] at hc; cases hc)
      | (gi_at_lookup; refine wpListIn_lookup_own_int W rfl _ _ 80 rfl 3 3 .i64 (Maps.int_keyed Tryd.underlying3) Tryd.underlying80 Tryd.underlying3 (Tryd.zeroValue3 _) w.heap.size xs.length (dat xs) rfl h2 (.int .i64 k) _ rfl hkey ?_; intro c hc hwc; rw [(hat k hk).2] at hc; cases hc))
    obtain ⟨i0, hi0, hiz, his, hib⟩ := info_parts (P := Tryd.prog) (e := 3) (z := .int .i64 0) (size := 1) (bytes := 8) (by kernel_rfl)
    gi_loopw [1, 8] (fun v1 v8 W' => ∃ (c : Int) (acc : List Nat), v1 = .int .i64 c ∧ -1 ≤ c ∧ c < n ∧ (acc.length : Int) + (c + 1) ≤ k ∧ (if c < 0 then [] else ov c.toNat ++ [c.toNat]) ++ acc = ov k ∧
      W'.ownsRow w.heap.size 3 1 v8 acc.length (acc.map fun (i : Nat) => Value.int .i64 (i : Int)) ∧ Boxed W' (w.heap.size + 1) 80 (.map (some w.heap.size)) ∧ W'.ownsMap Tryd.prog 3 (plainElem (H := Unit) Tryd.prog 3) w.heap.size xs.length (dat xs) ∧
      W'.heap[D]? = some (.deferred (some [])) ∧ Kept (fun b => b = w.heap.size) W0 W') (fun v1 _ _ => (intOf v1 + 1).toNat)
    case atStart =>
      refine ⟨p k, [], rfl, ?_, ?_, ?_, ?_, ⟨rfl, .inl ⟨rfl, rfl⟩⟩, h1, h2, hK, hkept⟩
      · rcases hp k hk with ⟨h, _⟩ | ⟨h1, h2, _⟩ <;> omega
      · rcases hp k hk with ⟨h, _⟩ | ⟨h1, h2, _⟩ <;> omega
      · rcases hp k hk with ⟨h, _⟩ | ⟨h1, h2, _⟩ <;> simp <;> omega
      · rcases hp k hk with ⟨h, h0⟩ | ⟨h1, h2, h0⟩
        · rw [h, h0]; rfl
        · rw [if_neg (by omega), h0]; simp
    case round =>
      obtain ⟨c, acc, rfl, hc1, hc2, hc3, hacc, hrow, hb, hmap, hdef, hkp⟩ := hrel
      have hcell3 := hb.cell
      have hq1 : w.heap.size ≤ wr.heap.size := by have := hkp.size; omega
      have hq2 : 0 < (#[Value.int .i64 c] : Array Value).size := by simp
      have hq3 : 0 ≤ c → 1 + acc.length ≤ maxLen := fun _ => by unfold maxLen; omega
      have hq4 : 0 ≤ c → (1 + acc.length) * 8 ≤ 140737488355328 := fun _ => by omega
      have hq5 : w.heap.size ≤ (wr.alloc (.cells #[.int .i64 c] 3)).heap.size := by rw [World.size_alloc]; omega
      have hq6 : ∀ u ∈ acc.map (fun (i : Nat) => Value.int .i64 (i : Int)), u.oneCell' = true := fun u hu => by obtain ⟨i, _, rfl⟩ := List.mem_map.1 hu; rfl
      gi_wp2_with (first
        | (gi_at_builtin; go_loud (have hcn : 0 ≤ c := (by assumption); refine append_rows _ rfl _ _ 51 rfl w.heap.size 3 i0 _ 1 8 Tryd.underlying51 hi0 hiz his hib rfl Nat.one_pos _ 1 [.int .i64 c] rfl (ownsRow_lit (cs := #[.int .i64 c]) hq1 hq2) Nat.one_pos u8 acc.length _ rfl (hrow.alloc _) hq6 (hq3 hcn) (hq4 hcn) hq5 ?_; intro v' w1 hrow1 hk1; have hb1 : Boxed w1 (w.heap.size + 1) 80 (.map (some w.heap.size)) := (hk1.block _ (by have := Boxed.lt hb; rw [World.size_alloc]; omega) (fun h => by have := Boxed.lt hb; have : wr.heap.size = _ := Option.some.inj h; omega)).trans ((heap_push_lt wr _ _ (Boxed.lt hb)).trans hb); have hcell1 := hb1.cell; have hmap1 : w1.ownsMap Tryd.prog 3 (plainElem (H := Unit) Tryd.prog 3) w.heap.size xs.length (dat xs) := ownsMap_kept (ownsMap_kept hmap (kept_alloc wr _) fun h => h) hk1 (fun h => by have := Boxed.lt hb; have : wr.heap.size = _ := Option.some.inj h; omega); have hdef1 : w1.heap[D]? = some (.deferred (some [])) := (hk1.block _ (by have := (Array.getElem?_eq_some_iff.1 hdef).1; rw [World.size_alloc]; omega) (fun h => by have := (Array.getElem?_eq_some_iff.1 hdef).1; have : wr.heap.size = _ := Option.some.inj h; omega)).trans ((heap_push_lt wr _ _ (Array.getElem?_eq_some_iff.1 hdef).1).trans hdef); have hkp1 : Kept (fun b => b = w.heap.size) W0 w1 := (hkp.trans (kept_alloc wr _) fun x h => h.elim).trans hk1 fun x h => .inr (by have := hkp.size; have : wr.heap.size = _ := Option.some.inj h; omega)))
        | (gi_at_lookup
           have hcn : 0 ≤ c := by assumption
           obtain ⟨i, rfl⟩ := Int.eq_ofNat_of_zero_le hcn
           have hin : i < n := by omega
           refine wpListIn_lookup_own_int w1 rfl _ _ 80 rfl 3 3 .i64 (Maps.int_keyed Tryd.underlying3) Tryd.underlying80 Tryd.underlying3 (Tryd.zeroValue3 _) w.heap.size xs.length (dat xs) rfl hmap1 (.int .i64 i) _ rfl (Maps.keyOf_int_mk Tryd.underlying3 (hwf i hin)) ?_
           intro c' hc' hwc'
           rw [(hat i hin).2] at hc'
           cases hc'))
      · have e0 : ov (i : Int).toNat = ov i := by rw [Int.toNat_natCast]
        rw [if_neg (by omega), e0, Int.toNat_natCast] at hacc
        refine ⟨⟨p i, i :: acc, rfl, ?_, ?_, ?_, ?_, ?_, hb1, hmap1, hdef1, hkp1⟩, ?_⟩
        · rcases hp i hin with ⟨h, _⟩ | ⟨h1, h2, _⟩ <;> omega
        · rcases hp i hin with ⟨h, _⟩ | ⟨h1, h2, _⟩ <;> omega
        · rw [List.length_cons]; rcases hp i hin with ⟨h, _⟩ | ⟨h1, h2, _⟩ <;> omega
        · rcases hp i hin with ⟨h, h0⟩ | ⟨h1, h2, h0⟩
          · rw [h, ← hacc, h0]; rfl
          · rw [if_neg (by omega), ← hacc, h0]; simp
        · rw [List.length_cons, Nat.add_comm]
          exact hrow1
        · show (p i + 1).toNat < ((i : Int) + 1).toNat
          rcases hp i hin with ⟨h, _⟩ | ⟨h1, h2, _⟩ <;> omega
      · have hlt : c < 0 := by assumption
        rw [if_pos hlt, List.nil_append] at hacc
        refine ⟨by simp, .inl ⟨_, _, rfl, run_takeDeferred hdef, ?_⟩⟩
        have hkw : Kept (fun _ => False) w W0 := by
          rw [← hW0]
          exact (((Kept.refl _ w).alloc _).alloc _).alloc _
        have hDw : w.heap.size ≤ D := by omega
        have hkD : Kept (fun b => b = D) wr (wr.putObj D (.deferred none)) := kept_putObj
        refine ⟨u8, by first | kernel_rfl | simp [results, Tryd.f43, go_sem], u8, acc.length, rfl, ?_, ?_⟩
        · rw [← hacc]
          refine ownsRow_kept hrow hkD fun g hg hgD => ?_
          subst hgD
          obtain ⟨_, h2⟩ := hrow
          rcases h2 with ⟨h0, _⟩ | ⟨g', cap', cur, hv, _, hh, _⟩
          · rw [h0] at hg; cases hg
          · rw [hv] at hg
            have : g' = g := Option.some.inj hg
            rw [this, hdef] at hh
            cases hh
        · exact (hkw.trans hkp fun x h => .inr (by omega)).trans hkD fun x h => .inr (by omega)
end Go.Proofs.YtjogkjgpbeenfaaDoor.Sv

/- plot.spots$1: what it hands on. -/
namespace Go.Proofs.YtjogkjgpbeenfaaDoor.Sv
open Go Go.Sv Go.Proofs Go.Rd Go.RowKit Go.Shelf
set_option linter.unusedVariables false
set_option linter.unusedSimpArgs false
set_option maxRecDepth 100000
attribute [local go_sem] Oper.semAt_some
abbrev NdT : Ty := .pair (.int .i64) (.pair .str (.int .i64))
/-- A row that stands in memory, and goes on to. -/
def RowIn [Dfr] (w : World) (l : List Nd) (s : Option Addr) (len cap : Nat) : Prop :=
  ∀ W, Kept (fun b => w.heap.size ≤ b) w W → GlobOK E (fun _ => False) W ∧ Cl (fun _ => False) W (.slice 28 NdT) l [.slice s len cap]
theorem step0 [Dfr] (W : World) : Step (fun _ => False) (Fr.F ⟨fun _ => none, fun _ => none⟩ (fun _ => False)) W W :=
  ⟨fun _ _ _ => rfl, fun b h => by
    rcases h with h | ⟨d, h⟩ | ⟨n, l, h⟩
    · exact h.elim
    · cases h
    · cases h⟩
theorem one_calls [Dfr] [DfrOK] {n : Nat} {l : List Nd} {b : Bool} (h : plot_one l = some b) {W : World} {s : Option Addr} {len cap : Nat} (hg : GlobOK E (fun _ => False) W) (hc : Cl (fun _ => False) W (.slice 28 NdT) l [.slice s len cap]) :
    CallsIn Fence.wide n Tryd.prog 81 #[.slice s len cap] W fun e w' => e = .returned (.bool b) ∧ Kept (fun _ => False) W w' := by
  obtain ⟨k, hk⟩ := ((plot_one_lim l).iff _).1 h
  obtain ⟨hf, hct⟩ := run_sound envOK k 81 l b hk
  rw [callsIn_wide]
  have hst := step0 W
  refine (hct W (fun _ => False) (fun _ => False) ⟨fun _ => none, fun _ => none⟩ [.slice s len cap] ⟨.cons (Cl.step hst hc) .nil, fun _ => rfl, fun n b l h => (by cases h), fun n n' b l l' h => (by cases h), fun b h => h.elim, hg.step hst⟩).mono ?_
  rintro e w' ⟨v, rfl, hk, hr⟩
  obtain ⟨T, hT⟩ := hr 0
  have hv : v = .bool b := hT.rel
  exact ⟨by rw [hv], hk⟩
theorem arity_calls [Dfr] [DfrOK] {n : Nat} {k r : Int} (h : row_Arity k = some r) {W : World} (hg : GlobOK E (fun _ => False) W) :
    CallsIn Fence.wide n Tryd.prog 38 #[.int .i64 k] W fun e w' => e = .returned (.int .i64 r) ∧ Kept (fun _ => False) W w' := by
  obtain ⟨q, hq⟩ := ((row_Arity_lim k).iff _).1 h
  obtain ⟨hf, hct⟩ := run_sound envOK q 38 k r hq
  rw [callsIn_wide]
  have hst := step0 W
  refine (hct W (fun _ => False) (fun _ => False) ⟨fun _ => none, fun _ => none⟩ [.int .i64 k] ⟨.cons rfl .nil, fun _ => rfl, fun n b l h => (by cases h), fun n n' b l l' h => (by cases h), fun b h => h.elim, hg.step hst⟩).mono ?_
  rintro e w' ⟨v, rfl, hk, hr⟩
  obtain ⟨T, hT⟩ := hr 0
  have hv : v = .int .i64 r := hT.rel
  exact ⟨by rw [hv], hk⟩
/-- The stack, as it lies in memory. -/
def flatS (S : Stk) : List Value := S.reverse.flatMap fun x => [.int .i64 (x.1 : Int), .int .i64 (x.2 : Int)]
theorem flatS_len [Dfr] : ∀ S : Stk, (flatS S).length = S.length * 2
  | [] => rfl
  | x :: r => by
    have : flatS (x :: r) = flatS r ++ [.int .i64 (x.1 : Int), .int .i64 (x.2 : Int)] := by simp [flatS]
    rw [this, List.length_append, flatS_len r]
    simp only [List.length_cons, List.length_nil]; omega
theorem top_cell [Dfr] {w : World} {base : Nat} {e : TypeId} {g cap : Nat} {z : Nat × Nat} {r : Stk} (h : w.ownsRow base e 2 (.slice (some ⟨g, 0, none⟩) (r.length + 1) cap) (r.length + 1) (flatS (z :: r))) :
    w.cell? { block := g, off := r.length * 2 + 1 } = some (.int .i64 (z.2 : Int)) := by
  have e : flatS (z :: r) = flatS r ++ [.int .i64 (z.1 : Int), .int .i64 (z.2 : Int)] := by simp [flatS]
  have := ownsRow_cells h (r.length * 2 + 1) (.int .i64 (z.2 : Int)) (by rw [e, List.getElem?_append_right (by rw [flatS_len]; omega), flatS_len]; simp)
  have ea : (⟨g, 0, none⟩ : Addr).add (r.length * 2 + 1) = { block := g, off := r.length * 2 + 1 } := by
    unfold Addr.add
    rw [if_neg (by omega), Nat.zero_add]
  rwa [ea] at this
theorem row_pop [Dfr] {w : World} {base : Nat} {e : TypeId} {size g cap n : Nat} {xs ys : List Value} (hl : xs.length = n * size) (h : w.ownsRow base e size (.slice (some ⟨g, 0, none⟩) (n + 1) cap) (n + 1) (xs ++ ys)) :
    w.ownsRow base e size (.slice (some ⟨g, 0, none⟩) n cap) n xs := by
  rcases h.2 with ⟨h0, _⟩ | ⟨g', cap', cur, hv, hb, hh, hc, hm, hs, ht⟩
  · cases h0
  · cases hv
    refine ⟨hl, .inr ⟨g, cap, cur, rfl, hb, hh, by omega, hm, hs, ?_⟩⟩
    have h1 := congrArg (List.take (n * size)) ht
    rw [List.take_take, Nat.min_eq_left (Nat.mul_le_mul_right _ (Nat.le_succ n)), ← hl, List.take_left] at h1
    rw [← hl]; exact h1
theorem row_set [Dfr] {w : World} {base : Nat} {e : TypeId} {g cap : Nat} {z : Nat × Nat} {r : Stk} (h : w.ownsRow base e 2 (.slice (some ⟨g, 0, none⟩) (r.length + 1) cap) (r.length + 1) (flatS (z :: r))) (m : Nat) :
    (w.setCell { block := g, off := r.length * 2 + 1 } (.int .i64 (m : Int))).ownsRow base e 2 (.slice (some ⟨g, 0, none⟩) (r.length + 1) cap) (r.length + 1) (flatS ((z.1, m) :: r)) := by
  have e1 : ∀ x : Nat × Nat, flatS (x :: r) = flatS r ++ [.int .i64 (x.1 : Int), .int .i64 (x.2 : Int)] := fun x => by simp [flatS]
  rcases h.2 with ⟨h0, _⟩ | ⟨g', cap', cur, hv, hb, hh, hc, hm, hs, ht⟩
  · cases h0
  · cases hv
    refine ⟨by rw [flatS_len]; rfl, .inr ⟨g, cap, cur.setIfInBounds (r.length * 2 + 1) (.int .i64 (m : Int)), rfl, hb, ?_, hc, hm, by simp [hs], ?_⟩⟩
    · unfold World.setCell
      simp only [Array.getElem?_modify, if_true, hh]
      simp
    · have h2 := flatS_len r
      rw [Array.toList_setIfInBounds, List.take_set, ht, e1, e1, List.set_append_right _ _ (by omega), h2]
      rw [show r.length * 2 + 1 - r.length * 2 = 1 by omega]; rfl
theorem top_cell0 [Dfr] {w : World} {base : Nat} {e : TypeId} {g cap : Nat} {z : Nat × Nat} {r : Stk} (h : w.ownsRow base e 2 (.slice (some ⟨g, 0, none⟩) (r.length + 1) cap) (r.length + 1) (flatS (z :: r))) :
    w.cell? { block := g, off := r.length * 2 } = some (.int .i64 (z.1 : Int)) := by
  have e : flatS (z :: r) = flatS r ++ [.int .i64 (z.1 : Int), .int .i64 (z.2 : Int)] := by simp [flatS]
  have := ownsRow_cells h (r.length * 2) (.int .i64 (z.1 : Int)) (by rw [e, List.getElem?_append_right (by rw [flatS_len]; omega), flatS_len]; simp)
  have ea : (⟨g, 0, none⟩ : Addr).add (r.length * 2) = { block := g, off := r.length * 2 } := by
    unfold Addr.add
    split
    · rename_i h; rw [h]
    · rw [Nat.zero_add]
  rwa [ea] at this
theorem row_free [Dfr] {w : World} {base : Nat} {e : TypeId} {size g cap n : Nat} {xs : List Value} (h : w.ownsRow base e size (.slice (some ⟨g, 0, none⟩) (n + 1) cap) (n + 1) xs) (j : Nat) : w.frozen? { block := g, off := j } = false := by
  rcases h.2 with ⟨h0, _⟩ | ⟨g', cap', cur, hv, hb, hh, hc, hm, hs, ht⟩
  · cases h0
  · cases hv
    simp [World.frozen?, hh]
theorem kept_setCell [Dfr] {w : World} {b o : Nat} {v : Value} : Kept (fun k => k = b) w (w.setCell { block := b, off := o } v) :=
  ⟨rfl, rfl, rfl, by simp [World.setCell], fun k _ hk => by simp [World.setCell, Array.getElem?_modify, Ne.symm hk], Nat.le_refl _⟩
theorem node_cells [Dfr] {W : World} {l : List Nd} {s : Option Addr} {len cap : Nat} (h : Cl (fun _ => False) W (.slice 28 NdT) l [.slice s len cap]) {k : Nat} (hk : k < l.length) :
    ∃ a, s = some a ∧ W.cell? (a.add (k * 3)) = some (.int .i64 l[k].1) ∧ W.cell? { block := (a.add (k * 3)).block, off := (a.add (k * 3)).off + 1 } = some (.string l[k].2.1) ∧ W.cell? { block := (a.add (k * 3)).block, off := (a.add (k * 3)).off + 2 } = some (.int .i64 l[k].2.2) := by
  rw [Cl] at h
  obtain ⟨A, c, e, _, h⟩ := h
  cases e
  rcases h with h | ⟨a, rfl, _, h⟩
  · rw [h] at hk; exact absurd hk (by simp)
  · obtain ⟨ds, hd, hc⟩ := h k _ (List.getElem?_eq_getElem hk)
    obtain ⟨c1, c2, rfl, h1, h2⟩ := hd
    obtain ⟨c3, c4, rfl, h3, h4⟩ := h2
    have h1 : c1 = [.int .i64 l[k].1] := h1
    have h3 : c3 = [.string l[k].2.1] := h3
    have h4 : c4 = [.int .i64 l[k].2.2] := h4
    subst h1 h3 h4
    have ea : ∀ j, 0 < j → a.add (k * 3 + j) = { block := (a.add (k * 3)).block, off := (a.add (k * 3)).off + j } := fun j hj => by
      unfold Addr.add
      rw [if_neg (by omega)]
      split
      · rename_i h; rw [h]; simp
      · simp [Nat.add_assoc]
    refine ⟨a, rfl, hc 0 _ rfl, ?_, ?_⟩
    · rw [← ea 1 (by omega)]; exact hc 1 _ rfl
    · rw [← ea 2 (by omega)]; exact hc 2 _ rfl
theorem row_val [Dfr] {w : World} {base : Nat} {e : TypeId} {size : Nat} {v : Value} {n : Nat} {xs : List Value} (h : w.ownsRow base e size v n xs) : ∃ cap ob, v = .slice ob n cap := by
  obtain ⟨_, h⟩ := h
  rcases h with ⟨rfl, rfl⟩ | ⟨g, cap, cur, rfl, _⟩
  · exact ⟨_, _, rfl⟩
  · exact ⟨_, _, rfl⟩
theorem ysOf_prefix [Dfr] {k n : Nat} {p : Nat → Int} {x : Spot} (hk : k < n) (hp : p k = x.2.1) (hx : x.1 = (k : Int)) : ysOf k p ++ [x].map spotK <+: ysOf n p := by
  have e : ysOf k p ++ [x].map spotK = ysOf (k + 1) p := by
    rw [ysOf_succ]
    show _ ++ [(x.1, x.2.1)] = _
    rw [hx, hp]
  rw [e]
  unfold ysOf
  refine List.IsPrefix.map _ ?_
  exact List.prefix_iff_eq_take.2 (by rw [List.length_range, List.take_range, Nat.min_eq_left (by omega)])
theorem anyDepth [Dfr] {m m' : Nat} {P : Program} {l : Nat} {f : FuncId} {tmps : Array Value} {assign body : Code} {w : World} {R : Ending → World → Prop}
    (h : RoundIn Fence.wide m P l f tmps assign body w R) : RoundIn Fence.wide m' P l f tmps assign body w R := ⟨h.1, fun c cs _ => h.2 c cs (fun d h => by cases h)⟩
theorem _root_.Go.World.ownsRow.base_le [Dfr] {w : World} {base : Nat} {e : TypeId} {size : Nat} {v : Value} {n : Nat} {xs : List Value} (h : w.ownsRow base e size v n xs) {g : Nat} (hg : v.ownBlock = some g) : base ≤ g := by
  obtain ⟨_, h2⟩ := h
  rcases h2 with ⟨h0, _⟩ | ⟨g', cap', cur, rfl, hb, _⟩
  · rw [h0] at hg; cases hg
  · cases hg; exact hb
theorem _root_.Go.World.ownsRow.not_box [Dfr] {w : World} {base : Nat} {e : TypeId} {size : Nat} {v : Value} {n : Nat} {xs : List Value} (h : w.ownsRow base e size v n xs) {g b : Nat} {cs : Array Value} {t : TypeId} (hg : v.ownBlock = some g) (hb : w.heap[b]? = some (.cells cs t (0, 0))) (ht : t ≠ e) : g ≠ b := by
  obtain ⟨_, h2⟩ := h
  rcases h2 with ⟨h0, _⟩ | ⟨g', cap', cur, rfl, _, hh, _⟩
  · rw [h0] at hg; cases hg
  · cases hg
    rintro rfl
    rw [hb] at hh
    cases hh
    exact ht rfl
theorem decS_len [Dfr] (ars : Nat → Nat) (k : Nat) : (decS (stkS ars k)).length ≤ k := by
  have : ∀ S : Stk, (decS S).length = S.length := fun S => by cases S <;> rfl
  rw [this]
  have h : ∀ k, (stkS ars k).length ≤ k := by
    intro k
    induction k with
    | zero => exact Nat.le_refl _
    | succ k ih =>
      show (stepS _ _ _).length ≤ _
      unfold stepS
      split
      · rw [List.length_cons, this]; omega
      · have hp : ∀ S : Stk, (popZ S).length ≤ S.length := by
          intro S
          induction S with
          | nil => exact Nat.le_refl _
          | cons y r ih =>
            unfold popZ
            split
            · rw [List.length_cons]; omega
            · exact Nat.le_refl _
        have := hp (decS (stkS ars k))
        rw [‹∀ S : Stk, (decS S).length = S.length›] at this
        omega
  exact h k
theorem flatS_cons [Dfr] (x : Nat × Nat) (r : Stk) : flatS (x :: r) = flatS r ++ [.int .i64 (x.1 : Int), .int .i64 (x.2 : Int)] := by simp [flatS]
def sliceLen : Value → Nat
  | .slice _ n _ => n
  | _ => 0
set_option maxHeartbeats 4000000 in
theorem spots1 [Dfr] [DfrOK] {l : List Nd} (ars : Nat → Nat) (s : Option Addr) (len cap : Nat) (w : World) (hrow : RowIn w l s len cap) (hone : plot_one l = some true) (hl : l.length = len) (hmax : len ≤ 1000000) (har : ∀ i (h : i < l.length), row_Arity l[i].1 = some (ars i : Int)) (har2 : ∀ i, i < len → ars i ≤ 2) :
    IterOK w (ysOf len fun k => topO (stkS ars k)) s len cap := by
  intro y bl M J W hw hM hyw hyW hbl hMbl hne hJ hy h0
  refine callsIn_of_wp Tryd.func80 rfl trivial ?_ rfl
  simp only [Tryd.ntmps80, List.size_toArray, List.length_cons, List.length_nil, Nat.reduceAdd, Nat.reduceSub, Array.replicate_succ, Array.replicate_zero, List.push_toArray, List.append_toArray, List.nil_append, List.cons_append]
  have hcell : W.cell? ⟨bl, 0, none⟩ = some (.slice s len cap) := by simp [World.cell?, hbl]
  gi_wp2_with fail
  refine ⟨trivial, (one_calls hone (hrow W hw).1 (hrow W hw).2).mono ?_⟩
  rintro e W2 ⟨rfl, hk2⟩
  have hbl2 := (hk2.block bl (Array.getElem?_eq_some_iff.1 hbl).1 fun h => h).trans hbl
  have hcell2 : W2.cell? ⟨bl, 0, none⟩ = some (.slice s len cap) := by simp [World.cell?, hbl2]
  gi_wp2_with fail
  gi_loopw [3, 4, 15] (fun v3 v4 v15 Wr => ∃ (k : Nat) (lv : Nat) (pre : List Spot), v15 = .int .i64 (k : Int) ∧ v4 = .int .i64 (lv : Int) ∧ lv ≤ k ∧ k ≤ len ∧ Wr.ownsRow W.heap.size 104 2 v3 (stkS ars k).length (flatS (stkS ars k)) ∧
      J pre Wr ∧ pre.map spotK = ysOf k (fun k => topO (stkS ars k)) ∧ Kept (fun b => w.heap.size ≤ b) w Wr ∧ Kept (fun k => M k ∨ k = y ∨ W.heap.size ≤ k) W Wr) (fun _ _ v15 _ => len - (intOf v15).toNat)
  case atStart => exact ⟨0, 0, [], rfl, rfl, Nat.le_refl _, Nat.zero_le _, ⟨rfl, .inl ⟨rfl, rfl⟩⟩, hJ _ _ _ h0 (hk2.weak fun _ _ h => h.elim), rfl, hw.trans hk2 fun x h => h.elim, hk2.weak fun _ _ h => h.elim⟩
  case round =>
    obtain ⟨k, lv, pre, rfl, rfl, hlv, hkl, hopen, hJp, hpre, hkw, hkW⟩ := hrel
    obtain ⟨wo, rfl⟩ : ∃ wo, wo = wr := ⟨_, rfl⟩
    by_cases hlt : k < len
    · have hkl' : k < l.length := by omega
      obtain ⟨a, rfl, c0, c1, c2⟩ := node_cells (hrow wo hkw).2 hkl'
      have hsc := fun (a : Addr) (re im : Nat) (w : World) => run_store Tryd.prog w a (.complex .f64 re im) .plain rfl
      have hszW := hkW.size
      obtain ⟨i1, hi1, hiz1, his1, hib1⟩ := info_parts (P := Tryd.prog) (e := 104) (z := .agg #[.int .i64 0, .int .i64 0]) (size := 2) (bytes := 16) (by kernel_rfl)
      cases hS : stkS ars k
      case' nil =>
        rw [hS] at hopen
        obtain ⟨cp, ob, rfl⟩ := row_val hopen
        simp only [List.length_nil] at hopen ⊢
        obtain ⟨W1, hW1⟩ : ∃ W1, ((wo.alloc (.cells #[.int .i64 l[k].1, .string l[k].2.1, .int .i64 l[k].2.2] 28)).alloc (.cells #[.complex .f64 (floatOfInt .f64 (lv : Int)) (floatOfInt .f64 0), .int .i64 (-1)] 85)) = W1 := ⟨_, rfl⟩
        have hk1' : Kept (fun _ => False) wo W1 := by rw [← hW1]; exact (kept_alloc wo _).alloc _
        have hk1 : Kept (fun b => W.heap.size ≤ b) wo W1 := hk1'.weak fun _ _ h => h.elim
        have hsz1 : W1.heap.size = wo.heap.size + 2 := by rw [← hW1]; simp
        have hyd := hy pre ((k : Int), (-1, (floatOfInt .f64 (lv : Int), floatOfInt .f64 0))) W1 (hJ _ _ _ hJp hk1) ?pfx (by omega)
        case pfx =>
          rw [List.map_append, hpre]
          exact ysOf_prefix hlt (by rw [hS]; rfl) rfl
        obtain ⟨fn, tm, asg, bdy, hyr, hround⟩ := hyd
        have hpre1 : (pre ++ [((k : Int), ((-1 : Int), (floatOfInt .f64 (lv : Int), floatOfInt .f64 0)))]).map spotK = ysOf (k + 1) (fun k => topO (stkS ars k)) := by
          rw [List.map_append, hpre, ysOf_succ, hS]; rfl
        simp only [spotV] at hyr
        generalize pre ++ [((k : Int), ((-1 : Int), (floatOfInt .f64 (lv : Int), floatOfInt .f64 0)))] = pre1 at hpre1 hround
        have hb6 : W1.heap[wo.heap.size]? = some (.cells #[.int .i64 l[k].1, .string l[k].2.1, .int .i64 l[k].2.2] 28 (0, 0)) := by
          rw [← hW1]
          exact (heap_push_lt _ _ _ (by simp)).trans (World.alloc_heap_new wo _)
        have hb7 : W1.heap[wo.heap.size + 1]? = some (.cells #[.complex .f64 (floatOfInt .f64 (lv : Int)) (floatOfInt .f64 0), .int .i64 (-1)] 85 (0, 0)) := by
          rw [← hW1]
          have := World.alloc_heap_new (wo.alloc (.cells #[.int .i64 l[k].1, .string l[k].2.1, .int .i64 l[k].2.2] 28)) (.cells #[.complex .f64 (floatOfInt .f64 (lv : Int)) (floatOfInt .f64 0), .int .i64 (-1)] 85)
          rwa [World.size_alloc] at this
        have c70 : W1.cell? { block := wo.heap.size + 1, off := 0 } = some (.complex .f64 (floatOfInt .f64 (lv : Int)) (floatOfInt .f64 0)) := by simp [World.cell?, hb7]
        have c71 : W1.cell? { block := wo.heap.size + 1, off := 1 } = some (.int .i64 (-1)) := by simp [World.cell?, hb7]
        have hrow1 : W1.ownsRow W.heap.size 104 2 (.slice ob 0 cp) (decS (stkS ars k)).length (flatS (decS (stkS ars k))) := by
          rw [hS]
          exact ownsRow_kept hopen hk1' fun _ _ h => h
        gi_wp2_with fail
      case' cons x r =>
        obtain ⟨hs1, hs2, hs3⟩ := stk_small ars k fun j hj => har2 j (by omega)
        have hx2 : 0 < x.2 := hs3 x r hS
        have hx1 : x.1 < k ∧ x.2 ≤ 2 := hs1 x (by rw [hS]; exact List.mem_cons_self ..)
        rw [hS] at hs2
        rw [List.length_cons] at hs2
        rw [hS, List.length_cons] at hopen
        obtain ⟨g, cp, rfl⟩ := ownsRow_succ hopen
        have hcap0 : r.length + 1 ≤ cp := by
          rcases hopen.2 with ⟨h0, _⟩ | ⟨g', c', cur, hv, _, _, hc, _⟩
          · cases h0
          · cases hv; exact hc
        have hgW : W.heap.size ≤ g := hopen.base_le rfl
        have hgl : g < wo.heap.size := by
          rcases hopen.2 with ⟨h0, _⟩ | ⟨g', c', cur, hv, _, hh, _⟩
          · cases h0
          · cases hv; exact (Array.getElem?_eq_some_iff.1 hh).1
        obtain ⟨Wa, hWa⟩ : ∃ Wa, ((wo.alloc (.cells #[.int .i64 l[k].1, .string l[k].2.1, .int .i64 l[k].2.2] 28)).alloc (.cells #[.complex .f64 (floatOfInt .f64 (lv : Int)) (floatOfInt .f64 ((r.length : Int) + 1)), .int .i64 (-1)] 85)) = Wa := ⟨_, rfl⟩
        have hka : Kept (fun _ => False) wo Wa := by rw [← hWa]; exact (kept_alloc wo _).alloc _
        have hsza : Wa.heap.size = wo.heap.size + 2 := by rw [← hWa]; simp
        have hb6a : Wa.heap[wo.heap.size]? = some (.cells #[.int .i64 l[k].1, .string l[k].2.1, .int .i64 l[k].2.2] 28 (0, 0)) := by
          rw [← hWa]
          exact (heap_push_lt _ _ _ (by simp)).trans (World.alloc_heap_new wo _)
        have hb7a : Wa.heap[wo.heap.size + 1]? = some (.cells #[.complex .f64 (floatOfInt .f64 (lv : Int)) (floatOfInt .f64 ((r.length : Int) + 1)), .int .i64 (-1)] 85 (0, 0)) := by
          rw [← hWa]
          have := World.alloc_heap_new (wo.alloc (.cells #[.int .i64 l[k].1, .string l[k].2.1, .int .i64 l[k].2.2] 28)) (.cells #[.complex .f64 (floatOfInt .f64 (lv : Int)) (floatOfInt .f64 ((r.length : Int) + 1)), .int .i64 (-1)] 85)
          rwa [World.size_alloc] at this
        have ca1 : Wa.cell? { block := wo.heap.size + 1, off := 1 } = some (.int .i64 (-1)) := by simp [World.cell?, hb7a]
        have fa1 : Wa.frozen? { block := wo.heap.size + 1, off := 1 } = false := by simp [World.frozen?, hb7a]
        have hrowa := ownsRow_kept hopen hka fun _ _ h => h
        have ca2 := top_cell0 hrowa
        obtain ⟨Wb, hWb⟩ : ∃ Wb, Wa.setCell { block := wo.heap.size + 1, off := 1 } (.int .i64 (x.1 : Int)) = Wb := ⟨_, rfl⟩
        have hkb : Kept (fun b => b = wo.heap.size + 1) Wa Wb := by rw [← hWb]; exact kept_setCell
        have hrowb := ownsRow_kept hrowa hkb fun g' hg' h => by
          have : g = g' := Option.some.inj hg'
          omega
        have cb1 := top_cell hrowb
        have fb1 := row_free hrowb (r.length * 2 + 1)
        obtain ⟨W1, hW1⟩ : ∃ W1, Wb.setCell { block := g, off := r.length * 2 + 1 } (.int .i64 ((x.2 : Int) - 1)) = W1 := ⟨_, rfl⟩
        have hkc : Kept (fun b => b = g) Wb W1 := by rw [← hW1]; exact kept_setCell
        have hk1 : Kept (fun b => W.heap.size ≤ b) wo W1 := ((hka.weak fun _ _ h => h.elim).trans hkb fun x h => .inr (by omega)).trans hkc fun x h => .inl (by omega)
        have hszb := hkb.size
        have hszc := hkc.size
        have hsz1 : wo.heap.size + 2 ≤ W1.heap.size := by omega
        have hrow1 : W1.ownsRow W.heap.size 104 2 (.slice (some ⟨g, 0, none⟩) (r.length + 1) cp) (decS (stkS ars k)).length (flatS (decS (stkS ars k))) := by
          rw [hS, ← hW1]
          have := row_set hrowb (x.2 - 1)
          rw [show ((x.2 - 1 : Nat) : Int) = (x.2 : Int) - 1 by omega] at this
          exact this
        have hb6 : W1.heap[wo.heap.size]? = some (.cells #[.int .i64 l[k].1, .string l[k].2.1, .int .i64 l[k].2.2] 28 (0, 0)) := (hkc.block _ (by omega) (by omega)).trans ((hkb.block _ (by omega) (by omega)).trans hb6a)
        have hb7b : Wb.heap[wo.heap.size + 1]? = some (.cells #[.complex .f64 (floatOfInt .f64 (lv : Int)) (floatOfInt .f64 ((r.length : Int) + 1)), .int .i64 (x.1 : Int)] 85 (0, 0)) := by
          rw [← hWb]
          unfold World.setCell
          simp only [Array.getElem?_modify, if_true, hb7a]
          simp
        have hb7 := (hkc.block _ (by omega) (by omega)).trans hb7b
        have c70 : W1.cell? { block := wo.heap.size + 1, off := 0 } = some (.complex .f64 (floatOfInt .f64 (lv : Int)) (floatOfInt .f64 ((r.length : Int) + 1))) := by simp [World.cell?, hb7]
        have c71 : W1.cell? { block := wo.heap.size + 1, off := 1 } = some (.int .i64 (x.1 : Int)) := by simp [World.cell?, hb7]
        have hyd := hy pre ((k : Int), ((x.1 : Int), (floatOfInt .f64 (lv : Int), floatOfInt .f64 ((r.length : Int) + 1)))) W1 (hJ _ _ _ hJp hk1) ?pfx2 (by omega)
        case pfx2 =>
          rw [List.map_append, hpre]
          exact ysOf_prefix hlt (by rw [hS]; rfl) rfl
        obtain ⟨fn, tm, asg, bdy, hyr, hround⟩ := hyd
        have hpre1 : (pre ++ [((k : Int), ((x.1 : Int), (floatOfInt .f64 (lv : Int), floatOfInt .f64 ((r.length : Int) + 1))))]).map spotK = ysOf (k + 1) (fun k => topO (stkS ars k)) := by
          rw [List.map_append, hpre, ysOf_succ, hS]; rfl
        simp only [spotV] at hyr
        generalize pre ++ [((k : Int), ((x.1 : Int), (floatOfInt .f64 (lv : Int), floatOfInt .f64 ((r.length : Int) + 1))))] = pre1 at hpre1 hround
        gi_wp2_with fail
      all_goals
        refine RoundIn.mono (anyDepth hround) ?_
        rintro e W3 ⟨rfl, hJ3, hk3⟩
        have hsz3 := hk3.size
        have hge3 : ∀ b, W.heap.size ≤ b → ¬ (M b ∨ b = y) := fun b hb h => by
          rcases h with h | h
          · have := (hM b h).2; omega
          · omega
        have hrow3 := ownsRow_kept hrow1 hk3 fun g hg => hge3 g (hrow1.base_le hg)
        have hb3 := (hk3.block _ (by omega) (hge3 _ hszW)).trans hb6
        have c3 : W3.cell? { block := wo.heap.size, off := 0 } = some (.int .i64 l[k].1) := by simp [World.cell?, hb3]
        have hkw3 : Kept (fun b => w.heap.size ≤ b) w W3 := (hkw.trans hk1 fun x h => .inl (by have := hw.size; omega)).trans hk3 fun x h => .inl (by rcases h with h | h; exact (hM x h).1; omega)
        have hkW3 : Kept (fun k => M k ∨ k = y ∨ W.heap.size ≤ k) W W3 := (hkW.trans hk1 fun x h => .inl (.inr (.inr h))).trans hk3 fun x h => .inl (h.imp id .inl)
        clear hyr hround c70 c71 hb7
        gi_wp2_with fail
        refine ⟨trivial, (arity_calls (har k hkl') (hrow W3 hkw3).1).mono ?_⟩
        rintro e W4 ⟨rfl, hk4⟩
        have hsz4 := hk4.size
        have hrow4 := ownsRow_kept hrow3 hk4 fun _ _ h => h
        have hb4 := (hk4.block _ (by omega) fun h => h).trans hb3
        have c4 : W4.cell? { block := wo.heap.size, off := 0 } = some (.int .i64 l[k].1) := by simp [World.cell?, hb4]
        have hJ4 := hJ _ _ _ hJ3 (hk4.weak fun _ _ h => h.elim)
        have hkw4 := hkw3.trans hk4 fun x h => h.elim
        have hkW4 := hkW3.trans hk4 fun x h => h.elim
        clear hk4 hk3 hrow3 hb3 c3 hJ3 hkw3 hkW3
        have hnb4 := fun g (hg : _ = some g) => hrow4.not_box hg hb4 (by decide)
        have hlen4 : (decS (stkS ars k)).length ≤ k := decS_len ars k
        have hq1 : (decS (stkS ars k)).length + 1 ≤ maxLen := by unfold maxLen; omega
        have hq2 : ((decS (stkS ars k)).length + 1) * 16 ≤ 140737488355328 := by omega
        have hq3 : W.heap.size ≤ (W4.alloc (.cells #[.int .i64 (k : Int), .int .i64 (ars k : Int)] 104)).heap.size := by rw [World.size_alloc]; omega
        have hq4 : ∀ u ∈ [Value.int .i64 (k : Int), Value.int .i64 (ars k : Int)], u.oneCell' = true := by simp [Value.oneCell']
        have hlit := ownsRow_lit (w := W4) (base := W.heap.size) (e := 104) (cs := #[.int .i64 (k : Int), .int .i64 (ars k : Int)]) (by omega) (by simp)
        by_cases hz : ars k = 0
        case' pos =>
          have hrow6 := hrow4
          have hlen6 : (decS (stkS ars k)).length ≤ k + 1 := by omega
          have hpop6 : popZ (decS (stkS ars k)) = stkS ars (k + 1) := by show _ = stepS _ _ _; rw [hz]; rfl
          have hful6 : ars k ≠ 0 → decS (stkS ars k) = stkS ars (k + 1) := fun h => absurd hz h
          have hb6' := hb4
          have hJ6 := hJ4
          have hkw6 := hkw4
          have hkW6 := hkW4
          have hz' : (ars k : Int) = 0 := by omega
          rw [hz']
          gi_wp2_with fail
        case' neg =>
          gi_wp2_with (gi_at_builtin; go_loud (refine append_kept _ rfl _ _ 100 rfl W.heap.size 104 i1 _ 2 16 Tryd.underlying100 hi1 hiz1 his1 hib1 rfl Nat.two_pos _ _ _ rfl (hrow4.alloc _) ⟨W4.heap.size, 0, none⟩ 1 1 [.int .i64 (k : Int), .int .i64 (ars k : Int)] rfl rfl (fun j u hu => ownsRow_cells hlit j u hu) hq4 hq1 hq2 hq3 ?_; intro v5 W5 hrow5 hk5 hnil5; have hsz5 := hk5.size; rw [World.size_alloc] at hsz5))
          have hk45 : Kept (fun b => W.heap.size ≤ b) W4 W5 := ((kept_alloc W4 _).weak fun _ _ h => h.elim).trans hk5 fun x h => .inl (hrow4.base_le h)
          have hrow6 : W5.ownsRow W.heap.size 104 2 v5 ((k, ars k) :: decS (stkS ars k)).length (flatS ((k, ars k) :: decS (stkS ars k))) := by rw [flatS_cons]; exact hrow5
          have hlen6 : ((k, ars k) :: decS (stkS ars k)).length ≤ k + 1 := by rw [List.length_cons]; omega
          have hful6 : ars k ≠ 0 → (k, ars k) :: decS (stkS ars k) = stkS ars (k + 1) := fun h => by show _ = stepS _ _ _; unfold stepS; rw [if_pos (by omega)]
          have hpop6 : popZ ((k, ars k) :: decS (stkS ars k)) = stkS ars (k + 1) := by rw [← hful6 hz]; unfold popZ; rw [if_neg hz]
          have hb6' : W5.heap[wo.heap.size]? = some (.cells #[.int .i64 l[k].1, .string l[k].2.1, .int .i64 l[k].2.2] 28 (0, 0)) := (hk5.block _ (by rw [World.size_alloc]; omega) fun h => hnb4 _ h rfl).trans ((heap_push_lt W4 _ _ (by omega)).trans hb4)
          have hJ6 := hJ _ _ _ hJ4 hk45
          have hkw6 := hkw4.trans hk45 fun x h => .inl (by have := hw.size; omega)
          have hkW6 := hkW4.trans hk45 fun x h => .inl (.inr (.inr h))
        all_goals
          gi_loopw [3] (fun v3 W' => ∃ S' : Stk, S'.length ≤ k + 1 ∧ W'.ownsRow W.heap.size 104 2 v3 S'.length (flatS S') ∧ popZ S' = stkS ars (k + 1) ∧ (ars k ≠ 0 → S' = stkS ars (k + 1)) ∧
            W'.heap[wo.heap.size]? = some (.cells #[.int .i64 l[k].1, .string l[k].2.1, .int .i64 l[k].2.2] 28 (0, 0)) ∧ J pre1 W' ∧ Kept (fun b => w.heap.size ≤ b) w W' ∧ Kept (fun k => M k ∨ k = y ∨ W.heap.size ≤ k) W W') (fun v3 _ => sliceLen v3)
          case' atStart => exact ⟨_, hlen6, hrow6, hpop6, hful6, hb6', hJ6, hkw6, hkW6⟩
          case' round =>
            clear hrow6 hb6' hJ6 hkw6 hkW6 hrow4 hb4 c4 hJ4 hkw4 hkW4 hq3 hlit
            obtain ⟨S', hSl, hr, hp, hf, hb, hJ', hkw', hkW'⟩ := hrel
            cases S'
            case' nil =>
              obtain ⟨cp', ob', rfl⟩ := row_val hr
              simp only [List.length_nil] at hr ⊢
              gi_wp2_with fail
              refine ⟨trivial, ?_⟩
              gi_wp2_with fail
              have hT : stkS ars (k + 1) = [] := hp.symm
              refine ⟨?_, ?_⟩
              · first
                | exact ⟨k + 1, lv, pre1, rfl, rfl, by omega, by omega, by rw [hT]; exact hr, hJ', hpre1, hkw', hkW'⟩
                | exact ⟨k + 1, lv + 1, pre1, rfl, rfl, by omega, by omega, by rw [hT]; exact hr, hJ', hpre1, hkw', hkW'⟩
              · show len - (((k + 1 : Nat) : Int)).toNat < len - ((k : Nat) : Int).toNat
                omega
            case' cons z r =>
              obtain ⟨g, cap', rfl⟩ := ownsRow_succ hr
              have hctop := top_cell hr
              have hcap : r.length + 1 ≤ cap' := by
                rcases hr.2 with ⟨h0, _⟩ | ⟨g', c', cur, hv, _, _, hc, _⟩
                · cases h0
                · cases hv; exact hc
              rw [List.length_cons] at hSl hr
              by_cases hz0 : z.2 = 0
              case' pos =>
                rw [hz0] at hctop
                have hk0 : ars k = 0 := Classical.byContradiction fun h => by
                  have h1 := hf h
                  have h2 : stkS ars (k + 1) = (k, ars k) :: decS (stkS ars k) := by show stepS _ _ _ = _; unfold stepS; rw [if_pos (by omega)]
                  rw [h2] at h1
                  have h3 : z = (k, ars k) := (List.cons.inj h1).1
                  rw [h3] at hz0
                  exact h hz0
                try exact absurd hk0 hz
                all_goals
                  have hark : row_Arity l[k].1 = some 0 := by rw [har k hkl', hk0]; rfl
                  have c9 : wr.cell? { block := wo.heap.size, off := 0 } = some (.int .i64 l[k].1) := by simp [World.cell?, hb]
                  gi_wp2_with fail
                  refine ⟨trivial, (arity_calls hark (hrow wr hkw').1).mono ?_⟩
                  rintro e W9 ⟨rfl, hk9⟩
                  gi_wp2_with fail
                  have hp' : popZ r = stkS ars (k + 1) := by
                    rw [← hp]
                    show _ = if z.2 = 0 then popZ r else z :: r
                    rw [if_pos hz0]
                  refine ⟨⟨r, by omega, row_pop (flatS_len r) (ownsRow_kept (by rw [flatS_cons] at hr; exact hr) hk9 fun _ _ h => h), hp', fun h => absurd hk0 h, (hk9.block _ (Array.getElem?_eq_some_iff.1 hb).1 fun h => h).trans hb, hJ _ _ _ hJ' (hk9.weak fun _ _ h => h.elim), hkw'.trans hk9 fun x h => h.elim, hkW'.trans hk9 fun x h => h.elim⟩, ?_⟩
                  show r.length < r.length + 1
                  omega
              case' neg =>
                gi_wp2_with fail
                refine ⟨trivial, ?_⟩
                gi_wp2_with fail
                have hT : stkS ars (k + 1) = z :: r := by
                  rw [← hp]
                  show (if z.2 = 0 then popZ r else z :: r) = _
                  rw [if_neg hz0]
                refine ⟨?_, ?_⟩
                · first
                  | exact ⟨k + 1, lv, pre1, rfl, rfl, by omega, by omega, by rw [hT]; exact hr, hJ', hpre1, hkw', hkW'⟩
                  | exact ⟨k + 1, lv + 1, pre1, rfl, rfl, by omega, by omega, by rw [hT]; exact hr, hJ', hpre1, hkw', hkW'⟩
                · show len - (((k + 1 : Nat) : Int)).toNat < len - ((k : Nat) : Int).toNat
                  omega
    · have hke : k = len := by omega
      subst hke
      gi_wp2_with fail
      exact ⟨rfl, .tuple #[], by first | kernel_rfl | simp [results, Tryd.f80, go_sem], ⟨_, rfl⟩, pre, hpre, hJp⟩
end Go.Proofs.YtjogkjgpbeenfaaDoor.Sv

/- plot.Over's contract, whole. -/
namespace Go.Proofs.YtjogkjgpbeenfaaDoor.Sv
open Go Go.Sv Go.Proofs Go.Rd Go.RowKit Go.Shelf
set_option linter.unusedVariables false
set_option linter.unusedSimpArgs false
set_option maxRecDepth 100000
/-- How many kids the nodes have. -/
def arsOf (l : List Nd) (i : Nat) : Nat := (arI (l.getD i default).1).toNat
theorem arsOf_ok [Dfr] (l : List Nd) : ∀ (t : T) (i : Nat) (r : List Nd), t.ok → l.drop i = t.row ++ r → t.arsOK (arsOf l) i ∧ ∀ j, i ≤ j → j < i + t.size → arsOf l j ≤ 2 ∧ arI (l.getD j default).1 = (arsOf l j : Int)
  | .n0 n, i, r, h, e => by
    have h0 : l.getD i default = n := by
      have : l[i]? = some n := by rw [← List.head?_drop, e]; rfl
      rw [List.getD_eq_getElem?_getD, this]; rfl
    have ha : arI n.1 = 0 := by unfold arI; rw [show ar n.1 = some 0 from h]; rfl
    have h1 : arsOf l i = 0 := by unfold arsOf; rw [h0, ha]; rfl
    refine ⟨h1, fun j h2 h3 => ?_⟩
    simp only [T.size] at h3
    have : j = i := by omega
    subst this
    rw [h1, h0, ha]; exact ⟨by omega, rfl⟩
  | .n1 n a, i, r, h, e => by
    have h0 : l.getD i default = n := by
      have : l[i]? = some n := by rw [← List.head?_drop, e]; rfl
      rw [List.getD_eq_getElem?_getD, this]; rfl
    have ha : arI n.1 = 1 := by unfold arI; rw [show ar n.1 = some 1 from h.1]; rfl
    have h1 : arsOf l i = 1 := by unfold arsOf; rw [h0, ha]; rfl
    obtain ⟨i1, i2⟩ := arsOf_ok l a (i + 1) r h.2 (by rw [← List.drop_drop, e]; rfl)
    refine ⟨⟨h1, i1⟩, fun j h2 h3 => ?_⟩
    simp only [T.size] at h3
    by_cases hj : j = i
    · subst hj; rw [h1, h0, ha]; exact ⟨by omega, rfl⟩
    · exact i2 j (by omega) (by omega)
  | .n2 n a b, i, r, h, e => by
    have h0 : l.getD i default = n := by
      have : l[i]? = some n := by rw [← List.head?_drop, e]; rfl
      rw [List.getD_eq_getElem?_getD, this]; rfl
    have ha : arI n.1 = 2 := by unfold arI; rw [show ar n.1 = some 2 from h.1]; rfl
    have h1 : arsOf l i = 2 := by unfold arsOf; rw [h0, ha]; rfl
    have e1 : l.drop (i + 1) = a.row ++ (b.row ++ r) := by rw [← List.drop_drop, e]; simp [T.row]
    have e2 : l.drop (i + 1 + a.size) = b.row ++ r := by rw [← List.drop_drop, e1, ← T.len_row a, List.drop_left]
    obtain ⟨i1, i2⟩ := arsOf_ok l a (i + 1) _ h.2.1 e1
    obtain ⟨i3, i4⟩ := arsOf_ok l b (i + 1 + a.size) r h.2.2 e2
    refine ⟨⟨h1, i1, i3⟩, fun j h2 h3 => ?_⟩
    simp only [T.size] at h3
    by_cases hj : j = i
    · subst hj; rw [h1, h0, ha]; exact ⟨by omega, rfl⟩
    · by_cases hj2 : j < i + 1 + a.size
      · exact i2 j (by omega) hj2
      · exact i4 j (by omega) (by omega)
theorem plot_one_s [Dfr] (l : List Nd) (t : T) (ht : tree l = some t) (hl : l.length ≤ 1000000) : plot_one l = some true := by
  obtain ⟨htok, hrow⟩ := tree_iff.1 ht
  have hp := T.size_pos' t
  have hlen : l.length = t.size := by rw [hrow, T.len_row]
  have hP : P l = some (t, []) := by rw [hrow]; exact P_row' htok
  have hsz : sz l = t.size := by unfold sz; rw [hP]
  rw [plot_one_eq, row_Size_s l (by omega), hsz, decide_eq_true (show (l.length : Int) > 0 by omega), hlen]
  simp
theorem over_contract [Dfr] [DfrOK] (l : List Nd) (k : Int) (r : List Int) (h : over_spec l k = some r) : Contract Tryd.prog E 43 (l, k) r := by
  unfold over_spec at h
  split at h
  · rename_i t ht
    split at h
    · rename_i hc
      obtain ⟨hl, hk0, hk1⟩ := hc
      cases h
      obtain ⟨htok, hrow⟩ := tree_iff.1 ht
      have hlen : l.length = t.size := by rw [hrow, T.len_row]
      obtain ⟨ho1, ho2⟩ := arsOf_ok l t 0 [] htok (by rw [List.drop_zero, List.append_nil]; exact hrow)
      intro w F0 G A vs hA
      obtain ⟨v0, v1, rfl, h0, h1⟩ : ∃ v0 v1, vs = [v0, v1] ∧ Cl (A.F F0) w (.slice 28 NdT) l [v0] ∧ v1 = .int .i64 k := by
        have hr := hA.rel
        cases hr with
        | cons a hr => cases hr with
          | cons b hr => cases hr; exact ⟨_, _, rfl, a, b⟩
      subst h1
      obtain ⟨s, cap, rfl⟩ : ∃ s cap, v0 = .slice s l.length cap := by
        have h0 := h0
        rw [Cl] at h0
        obtain ⟨a, c, e, _⟩ := h0
        exact ⟨a, c, (List.cons.inj e).1⟩
      have hin : RowIn w l s l.length cap := fun W hW => by
        have S : Step (A.F F0) (fun _ => False) w W := ⟨fun b _ hb => hW.block b hb (by omega), fun b hb => hb.elim⟩
        exact ⟨hA.glob.step S, Cl.step S h0⟩
      have hone := plot_one_s l t ht hl
      have hit := spots1 (arsOf l) s l.length cap w hin hone rfl hl (fun i hi => by
        rw [row_Arity_s]
        have := (ho2 i (Nat.zero_le _) (by omega)).2
        rw [List.getD_eq_getElem?_getD, List.getElem?_eq_getElem hi, Option.getD_some] at this
        rw [this]) (fun i hi => (ho2 i (Nat.zero_le _) (by omega)).1)
      obtain ⟨q, rfl⟩ := Int.eq_ofNat_of_zero_le hk0
      have hov := over_walk l.length (fun k => topO (stkS (arsOf l) k)) t.ovr (fun i hi => by
        rw [T.stk_par (arsOf l) t ho1 i (by omega)]
        exact T.over_ok t i (by omega)) hl s l.length cap w hit q (by omega)
      rw [callsIn_wide] at hov
      refine hov.mono ?_
      rintro e w' ⟨v, m, rfl, hv, hkept⟩
      have hsz := hkept.size
      refine ⟨v, rfl, hkept.weak fun _ _ h => h.elim, fun d => ?_⟩
      have hm : m = ((t.ovr ((q : Nat) : Int).toNat).map fun (i : Nat) => (i : Int)).length := by
        have := hv.1
        rw [List.length_map] at this
        rw [List.length_map, Int.toNat_natCast]; omega
      rcases hv.2 with ⟨rfl, h0⟩ | ⟨g, cp, cur, rfl, hg, hh, hc, hm2, hcs, htk⟩
      · have hnil : ((t.ovr ((q : Nat) : Int).toNat).map fun (i : Nat) => (i : Int)) = [] := List.eq_nil_of_length_eq_zero (by omega)
        refine ⟨⟨fun _ => none, fun _ => none⟩, ?_, fun _ => rfl, fun n b l h => (by cases h), fun n n' b l l' h => (by cases h)⟩
        exact .inl ⟨rfl, hnil, none, rfl⟩
      · refine ⟨⟨fun _ => none, fun n => if n = tagOf d 0 0 then some (g, m) else none⟩, ?_, fun _ => rfl, fun n b l h => ?_, fun n n' b l l' h h' => ?_⟩
        · refine .inr ⟨g, m, if_pos rfl, hm, cp, cur, by rw [← hm], hh, by rw [← hm]; exact hc, hm2, hcs, fun i x hx => ?_⟩
          refine ⟨[.int .i64 x], by rw [Cl], fun j u hu => ?_⟩
          rw [List.getElem?_map] at hx
          obtain ⟨n, hn, rfl⟩ := Option.map_eq_some_iff.1 hx
          have h2 : (List.take (m * 1) cur.toList)[i]? = some (.int .i64 (n : Int)) := by
            rw [htk, List.getElem?_map]
            rw [Int.toNat_natCast] at hn
            rw [hn]; rfl
          rw [List.getElem?_take] at h2
          split at h2
          · match j, hu with
            | 0, hu =>
              cases hu
              rw [Array.getElem?_toList] at h2
              simpa [Ty.sz] using h2
          · cases h2
        · simp only at h
          split at h
          · cases h; exact ⟨.inl hg, (Array.getElem?_eq_some_iff.1 hh).1⟩
          · cases h
        · simp only at h h'
          split at h
          · split at h'
            · rename_i e1 e2; rw [e1, e2]
            · cases h'
          · cases h
    · cases h
  · cases h
end Go.Proofs.YtjogkjgpbeenfaaDoor.Sv
