/- Each operation of the evaluator is sound: rows that are made. -/
import Derived.Test.YtnooginekcnflaaEvI
namespace Go.Sv
open Go
set_option linter.unusedVariables false
set_option linter.unusedSimpArgs false

section
variable {X : Ctx} {run : Runs X.E} {o : Oper} {σ σ' : St}

/-- The cells of a row that is read. -/
structure Src (F : Nat → Prop) (w : World) (u : Ty) (ys : List u.den) (a : Addr) (news : List Value) : Prop where
  len : news.length = ys.length * u.sz
  cell : ∀ j v, news[j]? = some v → w.cell? (a.add j) = some v
  one : ∀ v ∈ news, v.oneCell' = true
  el : ∀ i x, ys[i]? = some x → ∃ ds, Cl F w u x ds ∧ ∀ j z, ds[j]? = some z → news[i * u.sz + j]? = some z

theorem src_of {F : Nat → Prop} {w : World} {u : Ty} {ys : List u.den} {a : Addr}
    (h : ∀ i x, ys[i]? = some x → ∃ ds, Cl F w u x ds ∧ ∀ j v, ds[j]? = some v → w.cell? (a.add (i * u.sz + j)) = some v) : ∃ news, Src F w u ys a news := by
  have hp := Ty.sz_pos u
  have hall : ∀ k, k < ys.length * u.sz → ∃ v, w.cell? (a.add k) = some v ∧ v.oneCell' = true := fun k hk => by
    have hi : k / u.sz < ys.length := Nat.div_lt_of_lt_mul (by rw [Nat.mul_comm]; exact hk)
    obtain ⟨ds, hd, hc⟩ := h (k / u.sz) _ (List.getElem?_eq_getElem hi)
    have hm : k % u.sz < ds.length := by rw [hd.length]; exact Nat.mod_lt _ hp
    have := hc (k % u.sz) _ (List.getElem?_eq_getElem hm)
    rw [show k / u.sz * u.sz + k % u.sz = k by rw [Nat.mul_comm]; exact Nat.div_add_mod k u.sz] at this
    exact ⟨_, this, hd.one _ (List.getElem_mem hm)⟩
  refine ⟨(List.range (ys.length * u.sz)).map fun k => (w.cell? (a.add k)).getD undef, by simp, fun j v hj => ?_, fun v hv => ?_, fun i x hi => ?_⟩
  · obtain ⟨hlt, rfl⟩ := List.getElem?_eq_some_iff.1 hj
    obtain ⟨v, h1, h2⟩ := hall j (by simpa using hlt)
    simp [h1]
  · obtain ⟨k, hk, rfl⟩ := List.mem_map.1 hv
    obtain ⟨v, h1, h2⟩ := hall k (by simpa using hk)
    rw [h1]; exact h2
  · obtain ⟨ds, hd, hc⟩ := h i x hi
    refine ⟨ds, hd, fun j z hj => ?_⟩
    have hlt := (List.getElem?_eq_some_iff.1 hj).1
    rw [hd.length] at hlt
    have hi' := (List.getElem?_eq_some_iff.1 hi).1
    have hk : i * u.sz + j < ys.length * u.sz := by
      have : (i + 1) * u.sz ≤ ys.length * u.sz := Nat.mul_le_mul_right _ hi'
      rw [Nat.add_mul] at this; omega
    rw [List.getElem?_map, List.getElem?_eq_getElem (by simpa using hk)]
    simp [hc j z hj]

/-- What a slice's cells are, however it is held. -/
theorem src_RC {A : Fr} {tm : Array Value} {w : World} (hi : Inv X A σ tm w) {e : TypeId} {u : Ty} {ys : List u.den} {g : Tag} {v : Value} (hv : RC (X.F A) A w (.slice e u ys g) v) :
    ∃ ad cap, v = .slice ad ys.length cap ∧ ys.length ≤ cap ∧ (ys = [] ∨ ∃ a news, ad = some a ∧ Src (X.F A) w u ys a news) := by
  have ofCl : Cl (X.F A) w (.slice e u) ys [v] → ∃ ad cap, v = .slice ad ys.length cap ∧ ys.length ≤ cap ∧ (ys = [] ∨ ∃ a news, ad = some a ∧ Src (X.F A) w u ys a news) := fun h => by
    rw [Cl] at h
    obtain ⟨ad, cap, he, hc, hr⟩ := h
    simp only [List.cons.injEq, and_true] at he
    refine ⟨ad, cap, he, hc, ?_⟩
    rcases hr with hr | ⟨a, rfl, _, hr⟩
    · exact .inl hr
    · obtain ⟨news, hn⟩ := src_of hr
      exact .inr ⟨a, news, rfl, hn⟩
  cases g with
  | no => exact ofCl hv
  | exact => exact ofCl hv.1
  | nil => obtain ⟨rfl, a, rfl⟩ := hv; exact ⟨a, 0, rfl, Nat.le_refl _, .inl rfl⟩
  | own n =>
    rcases hv with ⟨_, rfl, a, rfl⟩ | ⟨b, l, hb, hl, cap, cur, rfl, hh, h1, h2, h3, h4⟩
    · exact ⟨a, 0, rfl, Nat.le_refl _, .inl rfl⟩
    · refine ⟨_, cap, rfl, h1, .inr ⟨⟨b, 0, none⟩, ?_⟩⟩
      obtain ⟨news, hn⟩ := src_of (F := X.F A) (w := w) (u := u) (ys := ys) (a := ⟨b, 0, none⟩) (fun i x hx => by
        obtain ⟨ds, hd, hc⟩ := h4 i x hx
        refine ⟨ds, hd, fun j v hj => ?_⟩
        rw [add_off, cell_of_block hh]; simpa using hc j v hj)
      exact ⟨news, rfl, hn⟩

theorem roomOk_iff {n bytes : Nat} (h : roomOk n bytes = true) : n * bytes ≤ 140737488355328 := by simpa [roomOk] using h

/-- A block that was just made, as a row of the frame's own. -/
theorem ownAt_new {F : Nat → Prop} {w w' : World} {e : TypeId} {u : Ty} {zs : List u.den} {cells : List Value} {rest : Array Value} {cap : Nat} (hcap : zs.length ≤ cap) (hcm : cap ≤ maxLen)
    (hlen : cells.length = zs.length * u.sz) (hrest : rest.size = (cap - zs.length) * u.sz) (hel : ∀ i x, zs[i]? = some x → ∃ ds, Cl F w' u x ds ∧ ∀ j z, ds[j]? = some z → cells[i * u.sz + j]? = some z)
    (hh : w'.heap[w.heap.size]? = some (.cells (cells.toArray ++ rest) e (0, 0))) :
    OwnAt F w' e u zs w.heap.size zs.length (.slice (some ⟨w.heap.size, 0, none⟩) zs.length cap) := by
  refine ⟨rfl, cap, _, rfl, hh, hcap, hcm, ?_, fun i x hx => ?_⟩
  · rw [Array.size_append, List.size_toArray, hlen, hrest, ← Nat.add_mul]; congr 1; omega
  · obtain ⟨ds, hd, hc⟩ := hel i x hx
    refine ⟨ds, hd, fun j z hj => ?_⟩
    have := hc j z hj
    rw [Array.getElem?_append_left (by simpa using (List.getElem?_eq_some_iff.1 this).1)]
    simpa using this

/-- The element rows of two rows, one behind the other. -/
theorem el_append {F : Nat → Prop} {w : World} {u : Ty} {xs ys : List u.den} {olds news : List Value} (ho : olds.length = xs.length * u.sz)
    (h1 : ∀ i x, xs[i]? = some x → ∃ ds, Cl F w u x ds ∧ ∀ j z, ds[j]? = some z → olds[i * u.sz + j]? = some z)
    (h2 : ∀ i x, ys[i]? = some x → ∃ ds, Cl F w u x ds ∧ ∀ j z, ds[j]? = some z → news[i * u.sz + j]? = some z) :
    ∀ i x, (xs ++ ys)[i]? = some x → ∃ ds, Cl F w u x ds ∧ ∀ j z, ds[j]? = some z → (olds ++ news)[i * u.sz + j]? = some z := by
  intro i x hx
  by_cases hi : i < xs.length
  · rw [List.getElem?_append_left hi] at hx
    obtain ⟨ds, hd, hc⟩ := h1 i x hx
    refine ⟨ds, hd, fun j z hj => ?_⟩
    have := hc j z hj
    rw [List.getElem?_append_left (List.getElem?_eq_some_iff.1 this).1]; exact this
  · rw [List.getElem?_append_right (by omega)] at hx
    obtain ⟨ds, hd, hc⟩ := h2 _ x hx
    refine ⟨ds, hd, fun j z hj => ?_⟩
    have h3 := hc j z hj
    have : xs.length * u.sz ≤ i * u.sz := Nat.mul_le_mul_right _ (by omega)
    rw [List.getElem?_append_right (by omega), ho, show i * u.sz + j - xs.length * u.sz = (i - xs.length) * u.sz + j by rw [Nat.sub_mul]; omega]
    exact h3

theorem zeroCells_size (z : Array Value) (n : Nat) : (Builtin.zeroCells z n).size = n * z.size := by simp [Builtin.zeroCells]

theorem append_none {P : Program} {t ty e : TypeId} {ti : TypeInfo} (ht : P.underlying t = some (.slice e)) (hi : P.info? e = some ti) (base ad : Option Addr) (n c cx : Nat) (hc : n ≤ c) (w : World) :
    (Builtin.append_ #[t, t] ty #[.slice base n c, .slice ad 0 cx]).run P w = .ok (.slice base n c) w := by
  cases base <;> cases ad <;> simp [Builtin.append_, run_underlying ht, sizeOf, typeInfo, hi, Builtin.lenOf, hc, Builtin.firstCells, loadCells, loadCellsFrom, storeCells]

theorem append_fresh {P : Program} {t e : TypeId} (ty : TypeId) {ti : TypeInfo} {z : Value} (ht : P.underlying t = some (.slice e)) (hi : P.info? e = some ti) (hz : ti.zero = some z) (base : Option Addr) (n c : Nat) (olds : List Value) (hlo : olds.length = n * ti.size)
    (h0 : base = none → n = 0 ∧ c = 0) (w : World) (holds : ∀ b, base = some b → ∀ j v, olds[j]? = some v → w.cell? (b.add j) = some v)
    (a : Addr) (m cx : Nat) (news : List Value) (hl : news.length = m * ti.size) (hnews : ∀ j v, news[j]? = some v → w.cell? (a.add j) = some v) (hm : 0 < m) (hg : c < n + m) (hmax : n + m ≤ maxLen) (hroom : (n + m) * ti.bytes ≤ 140737488355328) :
    (Builtin.append_ #[t, t] ty #[.slice base n c, .slice (some a) m cx]).run P w =
      .ok (.slice (some ⟨w.heap.size, 0, none⟩) (n + m) (grownCap w (n + m) c e)) (w.drew.alloc (.cells ((olds ++ news).toArray ++ Builtin.zeroCells z.cells (grownCap w (n + m) c e - (n + m))) e)) := by
  have h63 : n + m ≤ 9223372036854775807 := by simp only [maxLen] at hmax; omega
  cases base with
  | none =>
    obtain ⟨rfl, rfl⟩ := h0 rfl
    have : olds = [] := List.eq_nil_of_length_eq_zero (by simpa using hlo)
    subst this
    have := run_append_nil (P := P) w t ty e ti z ht hi hz a m cx news hl hnews hm (by omega) (by simp only [Nat.zero_add] at hroom; omega)
    simpa using this
  | some b =>
    have := run_append_grow (P := P) w t ty e ti z ht hi hz b n c olds hlo (holds b rfl) a m cx news hl hnews hg (by omega) (growslice_fits hg hroom)
    simpa using this

theorem newTag_step {A : Fr} {w w' : World} {l : List Nat} {n g len : Nat} (hkeep : ∀ b, ¬ X.F A b → b < w.heap.size → w'.heap[b]? = w.heap[b]?) (hg : X.F A g ∨ w.heap.size ≤ g) :
    Step (X.F A) (X.F ((A.drop l).setTg n (some (g, len)))) w w' :=
  ⟨hkeep, fun b hb => by
    rcases hb with hb | hb | ⟨m, k, hb⟩
    · exact .inl (.inl hb)
    · exact .inl (.inr (.inl hb))
    · simp only [Fr.setTg] at hb
      split at hb
      · cases hb; exact hg
      · exact .inl (Fr.drop_F (.inr (.inr ⟨m, k, hb⟩)))⟩

/-- A fresh row that becomes the frame's own. -/
theorem fresh_own {A : Fr} {tm : Array Value} {w : World} (h : Inv X A σ tm w) {l : List Nat} {n : Nat} (hn : n ∈ l) {e : TypeId} {u : Ty} {zs : List u.den} {cells : List Value} {rest : Array Value} {cap : Nat} (hcap : zs.length ≤ cap) (hcm : cap ≤ maxLen)
    (hlen : cells.length = zs.length * u.sz) (hrest : rest.size = (cap - zs.length) * u.sz) (hel : ∀ i x, zs[i]? = some x → ∃ ds, Cl (X.F A) w u x ds ∧ ∀ j z, ds[j]? = some z → cells[i * u.sz + j]? = some z) {w0 : World} (hw : w0 = w ∨ w0 = w.drew) :
    ∃ A', Inv X A' (σ.kill l) tm (w0.alloc (.cells (cells.toArray ++ rest) e)) ∧ RC (X.F A') A' (w0.alloc (.cells (cells.toArray ++ rest) e)) (.slice e u zs (.own n)) (.slice (some ⟨w.heap.size, 0, none⟩) zs.length cap) := by
  have hs : w0.heap = w.heap := by rcases hw with rfl | rfl <;> rfl
  have hlt : ∀ k, k < w.heap.size → (w0.alloc (.cells (cells.toArray ++ rest) e)).heap[k]? = w.heap[k]? := fun k hk => by
    rw [heap_push_lt w0 _ k (by rw [hs]; exact hk), hs]
  have hk : Kept X.G X.W (w0.alloc (.cells (cells.toArray ++ rest) e)) := by
    rcases hw with rfl | rfl
    · exact h.kept.alloc _
    · exact h.kept.drew.alloc _
  have hsz : (w0.alloc (.cells (cells.toArray ++ rest) e)).heap.size = w.heap.size + 1 := by rw [World.size_alloc, hs]
  have S : Step (X.F A) (X.F ((A.drop l).setTg n (some (w.heap.size, zs.length)))) w (w0.alloc (.cells (cells.toArray ++ rest) e)) := newTag_step (fun b _ hb => hlt b hb) (.inr (Nat.le_refl _))
  refine ⟨_, h.newTag (g := w.heap.size) (len := zs.length) hn (fun b hb _ => hlt b hb) hk ⟨.inl h.kept.size, by omega⟩ (by omega) (.inl (Nat.le_refl _)), .inr ⟨w.heap.size, zs.length, by simp [Fr.setTg], ?_⟩⟩
  refine ownAt_new hcap hcm hlen hrest (fun i x hx => ?_) (by have := heap_push_eq w0 (.cells (cells.toArray ++ rest) e); rw [hs] at this; exact this)
  obtain ⟨ds, hd, hc⟩ := hel i x hx
  exact ⟨ds, hd.step S, hc⟩

/-- A row that is appended to. -/
theorem old_RC {A : Fr} {tm : Array Value} {w : World} (hi : Inv X A σ tm w) {e : TypeId} {u : Ty} {xs : List u.den} {g : Tag} {v : Value} (hv : RC (X.F A) A w (.slice e u xs g) v) (hg : g ≠ .no) :
    ∃ (ad : Option Addr) (cap : Nat) (olds : List Value), v = .slice ad xs.length cap ∧ xs.length ≤ cap ∧ olds.length = xs.length * u.sz ∧ (ad = none → xs.length = 0 ∧ cap = 0) ∧ (∀ b, ad = some b → ∀ j v, olds[j]? = some v → w.cell? (b.add j) = some v) ∧
      ∀ i x, xs[i]? = some x → ∃ ds, Cl (X.F A) w u x ds ∧ ∀ j z, ds[j]? = some z → olds[i * u.sz + j]? = some z := by
  obtain ⟨ad, cap, rfl, hc, hs⟩ := src_RC hi hv
  have h0 : ad = none → xs.length = 0 ∧ cap = 0 := fun e => by
    subst e
    have : xs = [] := by
      rcases hs with hs | ⟨a, _, h, _⟩
      · exact hs
      · cases h
    subst this
    refine ⟨rfl, ?_⟩
    cases g with
    | no => exact absurd rfl hg
    | nil => obtain ⟨_, a, h⟩ := hv; simp at h; exact h.2
    | exact => obtain ⟨_, a, h⟩ := hv; simp at h; exact h.2
    | own n =>
      rcases hv with ⟨_, _, a, h⟩ | ⟨b, l, _, _, cap', cur, h, _⟩
      · simp at h; exact h.2
      · simp at h
  rcases hs with rfl | ⟨a, olds, rfl, hs⟩
  · exact ⟨ad, cap, [], rfl, hc, by simp, h0, fun _ _ j v h => by simp at h, fun i x h => by simp at h⟩
  · exact ⟨_, cap, olds, rfl, hc, hs.len, h0, fun b hb j v hj => by cases hb; exact hs.cell j v hj, hs.el⟩

theorem zeroCells_len {P : Program} {e : TypeId} {ie : TI} (h : TIOK P e ie) : ∃ ti z, P.info? e = some ti ∧ ti.size = ie.size ∧ ti.bytes = ie.bytes ∧ ti.zero = some z ∧ z.cells.size = ie.size := by
  obtain ⟨ti, h1, h2, h3, z, h4, h5, _⟩ := h.info
  exact ⟨ti, z, h1, h2, h3, h4, h5⟩

theorem append_main {ty tt e : TypeId} {u : Ty} {i ie : TI} {xs ys : List u.den} {g g' : Tag} {A : Fr} {tm : Array Value} {w : World} {vs vx : Value} {l : List Nat} {t : Nat} (hty : TIOK X.P ty i) (hd : i.d = .slice e) (he : TIOK X.P e ie) (hsz : ie.size = u.sz)
    (hi : Inv X A σ tm w) (hS : RC (X.F A) A w (.slice e u xs g) vs) (hX : RC (X.F A) A w (.slice e u ys g') vx) (hg : g ≠ .no) (hroom : roomOk (xs.length + ys.length) ie.bytes = true) (ht : t ∈ l) (hl : ∀ n, g = .own n → n ∈ l) :
    ∃ v' w', (Builtin.append_ #[ty, ty] tt #[vs, vx]).run X.P w = .ok v' w' ∧
      (g = .exact → ∃ A', Inv X A' σ tm w' ∧ RC (X.F A') A' w' (.slice e u (xs ++ ys) .no) v') ∧
      (g ≠ .exact → ∃ A', Inv X A' (σ.kill l) tm w' ∧ RC (X.F A') A' w' (.slice e u (xs ++ ys) (.own t)) v') := by
  obtain ⟨dd, hund, hk⟩ := hty.und
  rw [hd] at hk
  cases dd <;> try exact hk.elim
  have hk' : e = _ := hk
  subst hk'
  obtain ⟨ti, z, hti, h1, h2, hz, hzs⟩ := zeroCells_len he
  have hpos := Ty.sz_pos u
  have hbp := he.pos (by omega)
  have hroom' := roomOk_iff hroom
  have hmax : xs.length + ys.length ≤ maxLen := by
    have : (xs.length + ys.length) * 1 ≤ (xs.length + ys.length) * ie.bytes := Nat.mul_le_mul_left _ hbp
    simp only [maxLen]; omega
  obtain ⟨ad, cap, olds, rfl, hcap, hol, h0, holds, hoel⟩ := old_RC hi hS hg
  obtain ⟨ax, cx, rfl, hcx, hsx⟩ := src_RC hi hX
  by_cases hys : ys = []
  · -- nothing is appended
    subst hys
    refine ⟨_, w, append_none hund hti ad ax xs.length cap cx hcap w, fun hge => ?_, fun hge => ?_⟩
    · subst hge
      refine ⟨A, hi, ?_⟩
      rw [List.append_nil]
      exact hS.1
    · rw [List.append_nil]
      have nilc : xs = [] → (∃ b, Value.slice ad xs.length cap = .slice b 0 0) → ∃ A', Inv X A' (σ.kill l) tm w ∧ RC (X.F A') A' w (.slice e u xs (.own t)) (.slice ad xs.length cap) := fun hx hb => by
        obtain ⟨A', h3, h4⟩ := hi.kill l
        refine ⟨A', h3, .inl ⟨?_, hx, hb⟩⟩
        rcases h4 with ⟨h4, _⟩ | rfl
        · rw [h4] at ht; cases ht
        · simp [Fr.drop, mem_iff.2 ht]
      cases g with
      | no => exact absurd rfl hg
      | exact => exact absurd rfl hge
      | nil => exact nilc hS.1 hS.2
      | own n =>
        rcases hS with ⟨_, hx, hb⟩ | ⟨b, len, hb, hown⟩
        · exact nilc hx hb
        · have hn := hl n rfl
          refine ⟨_, hi.newTag (g := b) (len := len) ht (fun _ _ _ => rfl) hi.kept ⟨(hi.good.tgm n b len hb).1, (hi.good.tgm n b len hb).2⟩ (Nat.le_refl _) (.inr ⟨n, len, hb, hn⟩), .inr ⟨b, len, by simp [Fr.setTg], ?_⟩⟩
          exact hown.step (newTag_step (fun _ _ _ => rfl) (.inl (.inr (.inr ⟨n, len, hb⟩)))) rfl
  · rcases hsx with hsx | ⟨a, news, rfl, hsrc⟩
    · exact absurd hsx hys
    have hm : 0 < ys.length := List.length_pos_iff.2 hys
    have hnl : news.length = ys.length * ti.size := by rw [hsrc.len, h1, hsz]
    have hcl : (olds ++ news).length = (xs ++ ys).length * u.sz := by rw [List.length_append, hol, hsrc.len, List.length_append, Nat.add_mul]
    have hel := el_append hol hoel hsrc.el
    by_cases hfit : xs.length + ys.length ≤ cap
    · -- in its own block
      cases g with
      | no => exact absurd rfl hg
      | nil =>
        obtain ⟨rfl, b, hb⟩ := hS
        simp at hb
        simp only [List.length_nil] at hfit; omega
      | exact =>
        obtain ⟨_, b, hb⟩ := hS
        simp at hb
        omega
      | own n =>
        rcases hS with ⟨_, rfl, b, hb⟩ | ⟨b, len, hb, hlen, cap', cur, hv, hh, q1, q2, q3, q4⟩
        · simp at hb
          simp only [List.length_nil] at hfit; omega
        · simp only [Value.slice.injEq] at hv
          obtain ⟨rfl, _, rfl⟩ := hv
          subst hlen
          have hlc : xs.length * ti.size + news.length ≤ cur.size := by rw [hnl, q3, h1, hsz, ← Nat.add_mul]; exact Nat.mul_le_mul_right _ hfit
          have hr := run_append_room (P := X.P) w ty tt e ti hund hti b xs.length cap cur hh a ys.length cx news hnl hsrc.cell hsrc.one hfit hlc
          refine ⟨_, _, hr, fun hge => by simp at hge, fun _ => ?_⟩
          have hn := hl n rfl
          have hF : X.F A b := .inr (.inr ⟨n, _, hb⟩)
          have hmine := hi.good.tgm n b _ hb
          have hother : ∀ k, k ≠ b → (w.setRow b (cur.toList.take (xs.length * ti.size) ++ news ++ cur.toList.drop (xs.length * ti.size + news.length)).toArray).heap[k]? = w.heap[k]? := fun k hk => setRow_other w b k _ hk
          have S := newTag_step (X := X) (A := A) (l := l) (n := t) (g := b) (len := (xs ++ ys).length) (fun k hk _ => hother k fun e => hk (e ▸ hF)) (.inl hF)
          refine ⟨_, hi.newTag (g := b) (len := (xs ++ ys).length) ht (fun k hk hq => hother k fun e => ?_) (hi.kept.setRow hmine.1 _) ⟨hmine.1, by rw [size_setRow]; exact hmine.2⟩ (by rw [size_setRow]; exact Nat.le_refl _) (.inr ⟨n, _, hb, hn⟩), .inr ⟨b, (xs ++ ys).length, by simp [Fr.setTg], ?_⟩⟩
          · subst e
            rcases hq with hq | ⟨d, hq⟩ | ⟨m, k', hq, hml⟩
            · exact hq hF
            · exact hi.good.bt d n k _ hq hb
            · exact hml (hi.good.tgi n m k _ _ hb hq ▸ hn)
          · refine ⟨rfl, cap, _, by simp, setRow_heap w b cur _ e (0, 0) hh, by simpa using hfit, q2, ?_, fun i x hx => ?_⟩
            · simp only [List.size_toArray, List.length_append, List.length_take, List.length_drop, Array.length_toList]; omega
            · have e1 : olds = cur.toList.take (xs.length * ti.size) := by
                refine List.ext_getElem? fun k => ?_
                by_cases hk : k < xs.length * u.sz
                · have h3 : k < olds.length := by omega
                  have h4 := holds _ rfl k _ (List.getElem?_eq_getElem h3)
                  rw [add_off, cell_of_block hh, Nat.zero_add] at h4
                  rw [List.getElem?_eq_getElem h3, List.getElem?_take, if_pos (by rw [h1, hsz]; exact hk)]
                  simpa using h4.symm
                · rw [List.getElem?_eq_none (by omega), List.getElem?_eq_none (by rw [List.length_take, h1, hsz]; omega)]
              obtain ⟨ds, hd, hc⟩ := hel i x hx
              refine ⟨ds, hd.step S, fun j z hj => ?_⟩
              have h5 := hc j z hj
              rw [← e1, List.getElem?_toArray, List.getElem?_append_left (List.getElem?_eq_some_iff.1 h5).1]
              exact h5
    · have hr := append_fresh (tt) hund hti hz ad xs.length cap olds (by rw [h1, hsz]; exact hol) h0 w holds a ys.length cx news hnl hsrc.cell hm (by omega) hmax (by rw [h2]; exact hroom')
      have hge := grownCap_ge w (xs.length + ys.length) cap e
      have hle := grownCap_le_maxLen w (xs.length + ys.length) cap e hmax
      have hrest : (Builtin.zeroCells z.cells (grownCap w (xs.length + ys.length) cap e - (xs.length + ys.length))).size = (grownCap w (xs.length + ys.length) cap e - (xs ++ ys).length) * u.sz := by
        rw [zeroCells_size, hzs, hsz, List.length_append]
      have hf := fun l (hl : t ∈ l) => fresh_own (e := e) (rest := Builtin.zeroCells z.cells (grownCap w (xs.length + ys.length) cap e - (xs.length + ys.length))) hi hl (zs := xs ++ ys) (cap := grownCap w (xs.length + ys.length) cap e) (by simpa using hge) hle hcl hrest hel (w0 := w.drew) (.inr rfl)
      refine ⟨_, _, hr, fun hex => ?_, fun hex => ?_⟩
      · have hi' := hi.drew.alloc (.cells ((olds ++ news).toArray ++ Builtin.zeroCells z.cells (grownCap w (xs.length + ys.length) cap e - (xs.length + ys.length))) e)
        refine ⟨A, hi', ?_⟩
        obtain ⟨A', _, h6⟩ := hf [t] (by simp)
        have S : Step (X.F A) (X.F A) w (w.drew.alloc (.cells ((olds ++ news).toArray ++ Builtin.zeroCells z.cells (grownCap w (xs.length + ys.length) cap e - (xs.length + ys.length))) e)) :=
          ⟨fun k _ hk => heap_push_lt w.drew _ k hk, fun _ h => .inl h⟩
        have hown := ownAt_new (F := X.F A) (w := w) (zs := xs ++ ys) (cells := olds ++ news) (by simpa using hge) hle hcl hrest (fun i x hx => by
          obtain ⟨ds, hd, hc⟩ := hel i x hx; exact ⟨ds, hd.step S, hc⟩) (heap_push_eq w.drew _)
        have hp := hown.plain (fun hF => by
          rcases hF with hF | ⟨d, hF⟩ | ⟨m, k, hF⟩
          · have := (hi.good.f0 _ hF).1; have := hi.kept.size; omega
          · have := (hi.good.bxm d _ hF).2; omega
          · have := (hi.good.tgm m _ k hF).2; omega)
        rw [List.length_append] at hp
        exact hp
      · obtain ⟨A', h5, h6⟩ := hf l ht
        exact ⟨A', h5, by simpa using h6⟩

theorem call_value {a : Act} {w w' : World} {c : Call} {o : Oper} {b : Builtin} {v : Value} (ho : o.op = .call c) (hc : c.callee = .builtin b)
    (hr : ∀ consts, (builtin b c.argTypes o.type consts (c.args.map a.eval)).run X.P w = .ok (.value v) w') : (execOp a.eval o).run X.P w = .ok (.value v) w' := by
  simp [execOp, ho, resolve, hc, invoke, hr]

theorem toArr {α : Type} {a : Array α} {l : List α} (h : a.toList = l) : a = l.toArray := by
  rw [← h]

theorem len_sound {c : Call} (hE : TypesOK X.P X.E) (ho : o.op = .call c) (hc : c.callee = .builtin .len) (hd : ∀ d, o.dst = some d → d < X.n) (h : opK X.E run σ o some = some σ') : OpSound X o σ σ' := by
  simp only [opK, ho, hc] at h
  split at h
  · rename_i x ty hargs htys
    split at h
    · rename_i i hti
      have ht := hE.ti ty i hti
      obtain ⟨d, hu, hk⟩ := ht.und
      split at h
      · rename_i e e' u xs g hid hx
        cases h
        refine .value hd fun A a w hi => ?_
        have hv := ev_sound hi x
        rw [hx] at hv
        obtain ⟨ad, cap, he, _⟩ := src_RC hi hv
        rw [hid] at hk
        cases d <;> try exact hk.elim
        refine ⟨.int .i64 (xs.length : Int), call_value ho hc fun consts => ?_, rfl⟩
        simp [builtin, toArr hargs, toArr htys, he, Builtin.len_, run_underlying hu, goInt]
      · rename_i s hid hx
        cases h
        refine .value hd fun A a w hi => ?_
        have hv := ev_sound hi x
        rw [hx] at hv
        have he : a.eval x = .string s := hv
        rw [hid] at hk
        cases d <;> try exact hk.elim
        refine ⟨.int .i64 (s.size : Int), call_value ho hc fun consts => ?_, rfl⟩
        simp [builtin, toArr hargs, toArr htys, he, Builtin.len_, run_underlying hu, goInt]
      · cases h
    · cases h
  · cases h

theorem cap_sound {c : Call} (hE : TypesOK X.P X.E) (ho : o.op = .call c) (hc : c.callee = .builtin .cap) (hd : ∀ d, o.dst = some d → d < X.n) (h : opK X.E run σ o some = some σ') : OpSound X o σ σ' := by
  simp only [opK, ho, hc] at h
  split at h
  · rename_i x ty hargs htys
    split at h
    · rename_i i hti
      have ht := hE.ti ty i hti
      obtain ⟨d, hu, hk⟩ := ht.und
      split at h
      · rename_i e e' u xs hid hx
        cases h
        refine .value hd fun A a w hi => ?_
        have hv := ev_sound hi x
        rw [hx] at hv
        obtain ⟨_, ad, he⟩ := hv
        rw [hid] at hk
        cases d <;> try exact hk.elim
        refine ⟨.int .i64 0, call_value ho hc fun consts => ?_, rfl⟩
        simp [builtin, toArr hargs, toArr htys, he, Builtin.cap_, run_underlying hu, goInt]
      · cases h
    · cases h
  · cases h

theorem max_sound {c : Call} (ho : o.op = .call c) (hc : c.callee = .builtin .max) (hd : ∀ d, o.dst = some d → d < X.n) (h : opK X.E run σ o some = some σ') : OpSound X o σ σ' := by
  simp only [opK, ho, hc] at h
  split at h
  · rename_i x y hargs
    split at h
    · rename_i k n k' m hx hy
      cases h
      refine .value hd fun A a w hi => ?_
      have h1 := ev_sound hi x
      have h2 := ev_sound hi y
      rw [hx] at h1
      rw [hy] at h2
      have h1' : a.eval x = .int k n := h1
      have h2' : a.eval y = .int k' m := h2
      refine ⟨.int k (if m > n then m else n), call_value ho hc fun consts => ?_, rfl⟩
      simp [builtin, toArr hargs, h1', h2', run_max_int2]
    · cases h
  · cases h

theorem min_sound {c : Call} (ho : o.op = .call c) (hc : c.callee = .builtin .min) (hd : ∀ d, o.dst = some d → d < X.n) (h : opK X.E run σ o some = some σ') : OpSound X o σ σ' := by
  simp only [opK, ho, hc] at h
  split at h
  · rename_i x y hargs
    split at h
    · rename_i k n k' m hx hy
      cases h
      refine .value hd fun A a w hi => ?_
      have h1 := ev_sound hi x
      have h2 := ev_sound hi y
      rw [hx] at h1
      rw [hy] at h2
      have h1' : a.eval x = .int k n := h1
      have h2' : a.eval y = .int k' m := h2
      refine ⟨.int k (if m < n then m else n), call_value ho hc fun consts => ?_, rfl⟩
      simp [builtin, toArr hargs, h1', h2', run_min_int2]
    · cases h
  · cases h

theorem appendK_sound {c : Call} {ty : TypeId} {s x : Operand} (hE : TypesOK X.P X.E) (ho : o.op = .call c) (hc : c.callee = .builtin .append) (hargs : c.args.toList = [s, x]) (htys : c.argTypes.toList = [ty, ty]) (hd : ∀ d, o.dst = some d → d < X.n)
    (h : appendK X.E σ o.dst ty (σ.ev s) (σ.ev x) some = some σ') : OpSound X o σ σ' := by
  unfold appendK at h
  split at h
  · cases h
  rename_i i hti
  have ht := hE.ti ty i hti
  split at h
  · rename_i e e' u d hid hity hdst
    split at h
    · cases h
    rename_i ie hte
    have hte' := hE.ti e ie hte
    split at h
    · rename_i hcond
      obtain ⟨rfl, hpos, hsz⟩ := hcond
      split at h
      · rename_i xs g ys hs hx
        have hS : ∀ (A : Fr) (a : Act) (w : World), Inv X A σ a.tmps w → RC (X.F A) A w (.slice e' u xs g) (a.eval s) := fun A a w hi => by
          have hv := ev_sound hi s
          split at hs
          · rename_i hq
            rw [hq] at hv
            cases hs
            have : a.eval s = .slice none 0 0 := hv
            rw [this]; exact ⟨rfl, none, rfl⟩
          · rename_i hq
            split at hs
            · rename_i hee
              obtain ⟨rfl, rfl⟩ := hee
              cases hs
              rw [hq] at hv
              exact hv
            · cases hs
          · cases hs
        have hX : ∃ g', ∀ (A : Fr) (a : Act) (w : World), Inv X A σ a.tmps w → RC (X.F A) A w (.slice e' u ys g') (a.eval x) := by
          split at hx
          · rename_i hq
            cases hx
            refine ⟨.nil, fun A a w hi => ?_⟩
            have hv := ev_sound hi x
            rw [hq] at hv
            have : a.eval x = .slice none 0 0 := hv
            rw [this]; exact ⟨rfl, none, rfl⟩
          · rename_i g' hq
            split at hx
            · rename_i hee
              obtain ⟨rfl, rfl⟩ := hee
              cases hx
              refine ⟨g', fun A a w hi => ?_⟩
              have hv := ev_sound hi x
              rw [hq] at hv
              exact hv
            · cases hx
          · cases hx
        obtain ⟨g', hX⟩ := hX
        have fin : ∀ (l : List Nat), roomOk (xs.length + ys.length) ie.bytes = true → g ≠ .no → tagOf d 0 0 ∈ l → (∀ n, g = .own n → n ∈ l) →
            (g = .exact → σ' = σ.put (some d) (.sv (.one (.slice e' u (xs ++ ys) .no)))) → (g ≠ .exact → σ' = (σ.kill l).put (some d) (.sv (.one (.slice e' u (xs ++ ys) (.own (tagOf d 0 0)))))) → OpSound X o σ σ' := by
          intro l hroom hg ht' hl h1 h2 A a w hi hdef next Q hn
          obtain ⟨v', w', hr, k1, k2⟩ := append_main (tt := o.type) ht hid hte' hsz hi (hS A a w hi) (hX A a w hi) hg hroom ht' hl
          have hrun : (execOp a.eval o).run X.P w = .ok (.value v') w' := call_value ho hc fun consts => by
            simp [builtin, toArr hargs, toArr htys, hr]
          refine wp_value hrun ?_
          by_cases hge : g = .exact
          · obtain ⟨A', hi', hc'⟩ := k1 hge
            rw [h1 hge] at hn
            exact hn A' _ _ (by rw [hdst]; exact hi'.put (fun d' hd' => hd d' (by rw [hdst]; exact hd')) fun _ => hc') (by rw [put_defers]; exact hdef)
          · obtain ⟨A', hi', hc'⟩ := k2 hge
            rw [h2 hge] at hn
            exact hn A' _ _ (by rw [hdst]; exact hi'.put (fun d' hd' => hd d' (by rw [hdst]; exact hd')) fun _ => hc') (by rw [put_defers]; exact hdef)
        cases hroom : roomOk (xs.length + ys.length) ie.bytes with
        | false => cases g <;> simp [hroom] at h
        | true =>
          cases g with
          | no => simp at h
          | nil => simp only [hroom, cond_true, Option.some.injEq] at h; exact fin [tagOf d 0 0] hroom (by simp) (by simp) (by simp) (by simp) fun _ => h.symm
          | exact => simp only [hroom, cond_true, Option.some.injEq] at h; exact fin [tagOf d 0 0] hroom (by simp) (by simp) (by simp) (fun _ => h.symm) (by simp)
          | own n => simp only [hroom, cond_true, Option.some.injEq] at h; exact fin [n, tagOf d 0 0] hroom (by simp) (by simp) (by simp) (by simp) fun _ => h.symm
      · cases h
    · cases h
  · cases h

end
end Go.Sv
