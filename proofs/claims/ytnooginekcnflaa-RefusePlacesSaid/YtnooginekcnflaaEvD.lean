/- Each operation of the evaluator is sound: the first part: values, loads, stores, boxes. -/
import Derived.Test.YtnooginekcnflaaEvC
import Derived.Laws.StructEq
import Derived.Laws.Entries
import Derived.Laws.Strings
namespace Go.Sv
open Go

def DOK : D → TypeDesc → Prop
  | .bool, .bool => True
  | .int k, .int k' => k = k'
  | .str, .string => True
  | .slice e, .slice e' => e = e'
  | .struct fs, .struct fields => fields.toList.map (fun f => (f.offset, f.type)) = fs
  | .array n e, .array n' e' => n = n' ∧ e = e'
  | _, _ => False

def zeroVals : Ty → List Value
  | .bool => [.bool false]
  | .int k => [.int k 0]
  | .str => [.string ByteArray.empty]
  | .fn => [.nilFunc]
  | .slice _ _ => [.slice none 0 0]
  | .pair a b => zeroVals a ++ zeroVals b

/-- The cells of a value without slices. -/
def flatVals : (u : Ty) → u.den → List Value
  | .bool, x => [.bool x]
  | .int k, n => [.int k n]
  | .str, s => [.string s]
  | .fn, f => [.func (.func f) #[] #[]]
  | .slice _ _, _ => []
  | .pair a b, x => flatVals a x.1 ++ flatVals b x.2

theorem Cl.flat {F : Nat → Prop} {w : World} : ∀ {u : Ty} {x : u.den} {cs : List Value}, u.flat = true → Cl F w u x cs → cs = flatVals u x
  | .bool, _, _, _, h => by rw [Cl] at h; exact h
  | .int _, _, _, _, h => by rw [Cl] at h; exact h
  | .str, _, _, _, h => by rw [Cl] at h; exact h
  | .fn, _, _, _, h => by rw [Cl] at h; exact h
  | .slice _ _, _, _, hf, _ => by cases hf
  | .pair a b, x, _, hf, h => by
    simp only [Ty.flat, Bool.and_eq_true] at hf
    rw [Cl] at h
    obtain ⟨c1, c2, rfl, h1, h2⟩ := h
    rw [Cl.flat hf.1 h1, Cl.flat hf.2 h2]; rfl

theorem zero_RCs {F : Nat → Prop} {A : Fr} {w : World} : ∀ (u : Ty), RCs F A w (zeroPC u) (zeroVals u)
  | .bool => .cons rfl .nil
  | .int _ => .cons rfl .nil
  | .str => .cons rfl .nil
  | .fn => .cons rfl .nil
  | .slice _ _ => .cons ⟨rfl, none, rfl⟩ .nil
  | .pair a b => (zero_RCs a).append (zero_RCs b)

theorem zero_Cl {F : Nat → Prop} {w : World} : ∀ (u : Ty), zeroable u = true → Cl F w u u.dflt (zeroVals u)
  | .bool, _ => by rw [Cl]; rfl
  | .int _, _ => by rw [Cl]; rfl
  | .str, _ => by rw [Cl]; rfl
  | .fn, h => by cases h
  | .slice _ _, _ => by rw [Cl]; exact ⟨none, 0, rfl, Nat.le_refl _, .inl rfl⟩
  | .pair a b, h => by
    simp only [zeroable, Bool.and_eq_true] at h
    rw [Cl]; exact ⟨_, _, rfl, zero_Cl a h.1, zero_Cl b h.2⟩

theorem zeroVals_len : ∀ (u : Ty), (zeroVals u).length = u.sz
  | .bool | .int _ | .str | .fn | .slice _ _ => rfl
  | .pair a b => by simp [zeroVals, Ty.sz, zeroVals_len a, zeroVals_len b]

structure TIOK (P : Program) (t : TypeId) (i : TI) : Prop where
  info : ∃ ti, P.info? t = some ti ∧ ti.size = i.size ∧ ti.bytes = i.bytes ∧ ∃ z, ti.zero = some z ∧ z.cells.size = i.size ∧ (∀ u, i.ty = some u → z.cells.toList = zeroVals u)
  und : ∃ d, P.underlying t = some d ∧ DOK i.d d
  ty : ∀ u, i.ty = some u → u.sz = i.size
  pos : 0 < i.size → 0 < i.bytes
  fields : ∀ fs, i.d = .struct fs → ∀ q ∈ fs, ∃ tf, P.info? q.2 = some tf ∧ tf.size ≠ 0
  lay : ∀ fs u, i.d = .struct fs → i.ty = some u → ∀ f off ft, fs[f]? = some (off, ft) → ∃ v, Ty.offs fs.length f u = some (off, v)
  eq : i.eq = true → ∀ u, i.ty = some u → u.flat = true ∧ ∀ (w : World) (op : BinOp) (x y : Operand) (a b : u.den),
    (eqGuard op t x y (.agg (flatVals u a).toArray) (.agg (flatVals u b).toArray)).run P w = .ok () w ∧ (Op.equalIn 10000 t (.agg (flatVals u a).toArray) (.agg (flatVals u b).toArray)).run P w = .ok (eqD u a b) w

section
variable {X : Ctx} {A : Fr} {σ : St} {a : Act} {w : World}

theorem ev_sound (h : Inv X A σ a.tmps w) (x : Operand) : RP (X.F A) A w (σ.ev x) (a.eval x) := by
  cases x with
  | tmp t => exact h.slot t
  | const v =>
    unfold St.ev
    split
    all_goals first
      | (rename_i he; cases he; rfl)
      | (rename_i he; cases he; exact ⟨[], rfl, .nil⟩)
      | trivial
      | (rename_i he; cases he)
  | func f => exact ⟨[], rfl, .nil⟩
  | global g => exact rfl

theorem typed_sound (t : TypeId) {p : PV} {v : Value} (h : RP (X.F A) A w p v) : RP (X.F A) A w (X.E.typed t p) v := by
  unfold Env.typed
  split
  · split
    · split
      · have hv : v = .slice none 0 0 := h
        subst hv
        exact ⟨rfl, none, rfl⟩
      · exact h
    · exact h
  · exact h

/-- An operation that tells a value and leaves the world alone. -/
theorem wp_value {o : Oper} {next : Act → World → Prop} {Q : Exit → Act → World → Prop} {v : Value} {w' : World}
    (hr : (execOp a.eval o).run X.P w = .ok (.value v) w') (h : next (a.put o.dst v) w') : o.wp X.P a w next Q := by
  unfold Oper.wp; rw [hr]; exact h
theorem wp_skipped {o : Oper} {next : Act → World → Prop} {Q : Exit → Act → World → Prop} {w' : World}
    (hr : (execOp a.eval o).run X.P w = .ok .skip w') (h : next (a.put o.dst undef) w') : o.wp X.P a w next Q := by
  unfold Oper.wp; rw [hr]; exact h

theorem put_defers {dst : Option Tmp} {v : Value} : (a.put dst v).defers = a.defers := by cases dst <;> rfl
end

/-- What a step of the evaluator means. -/
def OpSound (X : Ctx) (o : Oper) (σ σ' : St) : Prop :=
  ∀ (A : Fr) (a : Act) (w : World), Inv X A σ a.tmps w → a.defers = [] → ∀ (next : Act → World → Prop) (Q : Exit → Act → World → Prop),
    (∀ A' a' w', Inv X A' σ' a'.tmps w' → a'.defers = [] → next a' w') → o.wp X.P a w next Q

section
variable {X : Ctx}

theorem OpSound.value {o : Oper} {σ : St} {p : PV} (hd : ∀ d, o.dst = some d → d < X.n)
    (h : ∀ (A : Fr) (a : Act) (w : World), Inv X A σ a.tmps w → ∃ v, (execOp a.eval o).run X.P w = .ok (.value v) w ∧ RP (X.F A) A w p v) : OpSound X o σ (σ.put o.dst p) := by
  intro A a w hi hdef next Q hn
  obtain ⟨v, hr, hp⟩ := h A a w hi
  exact wp_value hr (hn A _ w (hi.put hd fun _ => hp) (by rw [put_defers]; exact hdef))

theorem sound_move {o : Oper} {σ : St} {x : Operand} (ho : o.op = .move x ∨ o.op = .assign x) (hd : ∀ d, o.dst = some d → d < X.n) : OpSound X o σ (σ.put o.dst (X.E.typed o.type (σ.ev x))) :=
  .value hd fun A a w hi => ⟨a.eval x, by rcases ho with ho | ho <;> simp [execOp, ho], typed_sound _ (ev_sound hi x)⟩

theorem sound_pick {o : Oper} {σ : St} {c x y : Operand} {t : Bool} (ho : o.op = .pick c x y) (hd : ∀ d, o.dst = some d → d < X.n) (hc : σ.ev c = .sv (.one (.bool t))) :
    OpSound X o σ (σ.put o.dst (X.E.typed o.type (σ.ev (bif t then x else y)))) :=
  .value hd fun A a w hi => by
    have h1 := ev_sound hi c
    rw [hc] at h1
    have h1' : a.eval c = .bool t := h1
    refine ⟨a.eval (bif t then x else y), ?_, typed_sound _ (ev_sound hi _)⟩
    cases t <;> simp [execOp, ho, h1', asBool]

/-! ### loads -/
theorem cell_of_block {w : World} {b j : Nat} {vs : Array Value} {tid : TypeId} {fz : Nat × Nat} (h : w.heap[b]? = some (.cells vs tid fz)) : w.cell? ⟨b, j, none⟩ = vs[j]? := by simp [World.cell?, h]

theorem add_off (b o j : Nat) : (⟨b, o, none⟩ : Addr).add j = ⟨b, o + j, none⟩ := by unfold Addr.add; split <;> simp_all

theorem All2.length {α β : Type} {R : α → β → Prop} {l : List α} {m : List β} (h : All2 R l m) : l.length = m.length := by
  induction h with
  | nil => rfl
  | cons _ _ ih => simp [ih]

theorem isAgg_run {P : Program} {t : TypeId} {i : TI} (h : TIOK P t i) (w : World) : (isAgg t).run P w = .ok i.agg w := by
  obtain ⟨d, hu, hd⟩ := h.und
  unfold isAgg underlying
  simp only [Sem.run_bind, run_program, Result.andThen_ok, hu]
  unfold TI.agg
  cases hi : i.d <;> cases d <;> simp_all [DOK]

theorem sizeOf_run {P : Program} {t : TypeId} {i : TI} (h : TIOK P t i) (w : World) : (sizeOf t).run P w = .ok i.size w := by
  obtain ⟨ti, hi, hs, _⟩ := h.info
  unfold sizeOf typeInfo
  simp [hi, hs]

theorem zeroValue_run {P : Program} {t : TypeId} {i : TI} (h : TIOK P t i) (w : World) : ∃ z, (zeroValue t).run P w = .ok z w ∧ z.cells.size = i.size ∧ (∀ u, i.ty = some u → z.cells.toList = zeroVals u) := by
  obtain ⟨ti, hi, _, _, z, hz, h1, h2⟩ := h.info
  refine ⟨z, ?_, h1, h2⟩
  unfold zeroValue typeInfo
  simp [hi, hz]

/-- A variable of type t at an address whose cells are told is loaded as told. -/
theorem loadVar_run {P : Program} {E : Env} {t : TypeId} {i : TI} (hi : E.ti t = some i) (ht : TIOK P t i) {F : Nat → Prop} {A : Fr} {w : World} {cs : List PC} {vs : List Value} {ad : Addr} (hc : RCs F A w cs vs) {s : SV} (hs : E.mkSV t cs = some s)
    (hl : cs.length = i.size) (hcell : ∀ j u, vs[j]? = some u → w.cell? (ad.add j) = some u) : ∃ v, (loadVar t ad).run P w = .ok v w ∧ RS F A w s v := by
  unfold Env.mkSV at hs
  simp only [hi] at hs
  have hvl : vs.length = i.size := by rw [← hc.length, hl]
  unfold loadVar
  simp only [Sem.run_bind, isAgg_run ht, Result.andThen_ok, Sem.run_ite]
  cases hagg : i.agg with
  | true =>
    simp only [hagg, if_true, Option.some.injEq] at hs
    subst hs
    have hload : (loadCells ad i.size).run P w = .ok vs.toArray w := by rw [← hvl]; exact run_loadCells_list (P := P) w ad vs hcell
    refine ⟨.agg vs.toArray, ?_, vs, rfl, hc⟩
    simp [sizeOf_run ht, hload]
  | false =>
    simp only [hagg, Bool.false_eq_true, if_false] at hs
    cases hc with
    | nil => simp at hs
    | cons h0 hr =>
      cases hr with
      | nil =>
        simp only [Option.some.injEq] at hs
        subst hs
        refine ⟨_, ?_, h0⟩
        have := hcell 0 _ rfl
        have h0' : ad.add 0 = ad := by simp [Addr.add]
        rw [h0'] at this
        simp [this]
      | cons _ _ => simp at hs

theorem drop_take_get {α : Type} (l : List α) (o n j : Nat) (u : α) (h : ((l.drop o).take n)[j]? = some u) : l[o + j]? = some u := by
  rw [List.getElem?_take] at h
  split at h
  · rw [List.getElem?_drop] at h; exact h
  · cases h

theorem holder_PC {F : Nat → Prop} {A : Fr} {w : World} {g : Nat} {u : Ty} {e : TypeId} {xs : List u.den} : ∀ {cs : List PC} {vs : List Value}, findPC g cs = some ⟨u, e, xs⟩ → RCs F A w cs vs → ∃ v, RC F A w (.slice e u xs (.own g)) v
  | [], _, hf, _ => by simp [findPC] at hf
  | c :: cs, _, hf, .cons h0 hr => by
    unfold findPC at hf
    split at hf
    · cases hf
    · rename_i e' t' xs' n r he
      cases he
      cases hb : Nat.beq n g with
      | true =>
        simp only [hb, cond_true, Option.some.injEq] at hf
        have := Nat.eq_of_beq_eq_true hb
        subst this
        cases hf
        exact ⟨_, h0⟩
      | false =>
        simp only [hb, cond_false] at hf
        exact holder_PC hf hr
    · rename_i he
      cases he
      exact holder_PC hf hr

theorem holder {F : Nat → Prop} {A : Fr} {w : World} {g : Nat} {u : Ty} {e : TypeId} {xs : List u.den} : ∀ {l : List (Nat × PV)}, findTag g l = some ⟨u, e, xs⟩ →
    (∀ p ∈ l, ∃ v, RP F A w p.2 v) → ∃ v, RC F A w (.slice e u xs (.own g)) v
  | [], hf, _ => by simp [findTag] at hf
  | p :: l, hf, hl => by
    unfold findTag at hf
    split at hf
    · cases hf
    · rename_i i s r he
      cases he
      split at hf
      · rename_i y hy
        cases hf
        obtain ⟨v, hv⟩ := hl _ (List.mem_cons_self ..)
        exact holder_PC hy (RS.cells hv)
      · exact holder hf fun q hq => hl q (List.mem_cons_of_mem _ hq)
    · rename_i he
      cases he
      exact holder hf fun q hq => hl q (List.mem_cons_of_mem _ hq)

theorem loadK_box {E : Env} {σ : St} {t : TypeId} {d off : Nat} {s : SV} (h : loadK E σ t (.sv (.one (.box d off))) some = some s) :
    ∃ i tid cs, E.ti t = some i ∧ getB σ.b d = some (tid, cs) ∧ off + i.size ≤ cs.length ∧ E.mkSV t ((cs.drop off).take i.size) = some s := by
  unfold loadK at h
  cases hi : E.ti t with
  | none => simp [hi] at h
  | some i =>
    simp only [hi] at h
    cases hb : getB σ.b d with
    | none => simp [hb] at h
    | some q =>
      obtain ⟨tid, cs⟩ := q
      simp only [hb] at h
      split at h
      · rename_i hle
        split at h
        · cases h; exact ⟨i, tid, cs, rfl, rfl, hle, by assumption⟩
        · cases h
      · cases h

theorem loadK_elem {E : Env} {σ : St} {t : TypeId} {u : Ty} {x : u.den} {s : SV} (h : loadK E σ t (.sv (.one (.elem u x))) some = some s) :
    ∃ i, E.ti t = some i ∧ i.ty = some u ∧ E.mkSV t (u.toPC x) = some s := by
  unfold loadK at h
  cases hi : E.ti t with
  | none => simp [hi] at h
  | some i =>
    simp only [hi] at h
    split at h
    · split at h
      · rename_i hu
        subst hu
        split at h
        · cases h; exact ⟨i, rfl, by assumption, by assumption⟩
        · cases h
      · cases h
    · cases h

theorem loadK_elemT {E : Env} {σ : St} {t : TypeId} {u : Ty} {g : Nat} {n : Int} {off : Nat} {s : SV} (h : loadK E σ t (.sv (.one (.elemT u g n off))) some = some s) :
    ∃ i e xs, E.ti t = some i ∧ findTag g σ.s = some ⟨u, e, xs⟩ ∧ off + i.size ≤ u.sz ∧ E.mkSV t (((u.toPC (rd u xs n)).drop off).take i.size) = some s := by
  unfold loadK at h
  cases hi : E.ti t with
  | none => simp [hi] at h
  | some i =>
    simp only [hi] at h
    split at h
    · rename_i u' e xs hf
      split at h
      · rename_i hle
        obtain ⟨hu, hle⟩ := hle
        subst hu
        split at h
        · cases h; exact ⟨i, e, xs, rfl, hf, hle, by assumption⟩
        · cases h
      · cases h
    · cases h

structure TypesOK (P : Program) (E : Env) : Prop where
  ti : ∀ t i, E.ti t = some i → TIOK P t i

theorem toPC_len (u : Ty) (x : u.den) : (u.toPC x).length = u.sz := by
  induction u with
  | pair a b iha ihb => simp [Ty.toPC, Ty.sz, iha, ihb]
  | _ => rfl

theorem rd_get {u : Ty} {xs : List u.den} {n : Int} (h : n.toNat < xs.length) : xs[n.toNat]? = some (rd u xs n) := by
  unfold rd
  rw [List.getElem?_eq_getElem h, List.getD_eq_getElem?_getD, List.getElem?_eq_getElem h]; rfl

/-- What an address of the frame's own leads to. -/
theorem elemT_at {A : Fr} {σ : St} {tm : Array Value} {w : World} (hi : Inv X A σ tm w) {g : Nat} {u : Ty} {e : TypeId} {xs : List u.den} (hf : findTag g σ.s = some ⟨u, e, xs⟩)
    {n : Int} {off : Nat} {v : Value} (hv : RC (X.F A) A w (.elemT u g n off) v) :
    ∃ b cap cur, A.tg g = some (b, xs.length) ∧ v = .pointer (some ⟨b, n.toNat * u.sz + off, none⟩) ∧ 0 ≤ n ∧ n.toNat < xs.length ∧ w.heap[b]? = some (.cells cur e (0, 0)) ∧ xs.length ≤ cap ∧ cap ≤ maxLen ∧ cur.size = cap * u.sz ∧
      (∀ i x, xs[i]? = some x → ∃ ds, Cl (X.F A) w u x ds ∧ ∀ j z, ds[j]? = some z → cur[i * u.sz + j]? = some z) := by
  obtain ⟨b, l, hb, h0, hlt, rfl⟩ := hv
  obtain ⟨v', hv'⟩ := holder hf hi.ent
  rcases hv' with ⟨hn, _⟩ | ⟨b', l', hb', hl', cap, cur, rfl, hh, h1, h2, h3, h4⟩
  · rw [hn] at hb; cases hb
  · rw [hb] at hb'
    cases hb'
    subst hl'
    exact ⟨b, cap, cur, hb, rfl, h0, hlt, hh, h1, h2, h3, h4⟩

theorem sound_load {o : Oper} {σ : St} {t : TypeId} {x : Operand} {s : SV} (hE : TypesOK X.P X.E) (ho : o.op = .load t x) (hd : ∀ d, o.dst = some d → d < X.n)
    (hl : loadK X.E σ t (σ.ev x) some = some s) : OpSound X o σ (σ.put o.dst (.sv s)) :=
  .value hd fun A a w hi => by
    have hx := ev_sound hi x
    have fin : ∀ ad, a.eval x = .pointer (some ad) → (∃ v, (loadVar t ad).run X.P w = .ok v w ∧ RS (X.F A) A w s v) →
        ∃ v, (execOp a.eval o).run X.P w = .ok (.value v) w ∧ RP (X.F A) A w (.sv s) v := fun ad he ⟨v, hr, hs⟩ => by
      refine ⟨v, ?_, hs⟩
      simp [execOp, ho, Instr.loadAt, Instr.sureAddr, he, hr]
    generalize hp : σ.ev x = p at hx hl
    match p, hl, hx with
    | .sv (.one (.box d off)), hl, hx =>
      obtain ⟨i, tid, cs, hti, hb, hle, hs⟩ := loadK_box hl
      obtain ⟨b, hbx, he⟩ := hx
      obtain ⟨b', vs, hbx', hh, hc⟩ := hi.box d tid cs hb
      rw [hbx] at hbx'
      cases hbx'
      refine fin _ he (loadVar_run hti (hE.ti t i hti) (forall2_take (forall2_drop hc off) i.size) hs (by simp; omega) fun j u hj => ?_)
      rw [add_off, cell_of_block hh]
      simpa using drop_take_get _ _ _ _ _ hj
    | .sv (.one (.elem u y)), hl, hx =>
      obtain ⟨i, hti, hty, hs⟩ := loadK_elem hl
      obtain ⟨ad, cs, he, hF, hc, hcell⟩ := hx
      exact fin _ he (loadVar_run hti (hE.ti t i hti) hc.toPC hs (by rw [toPC_len]; exact (hE.ti t i hti).ty u hty) hcell)
    | .sv (.one (.elemT u g n off)), hl, hx =>
      obtain ⟨i, e, xs, hti, hf, hle, hs⟩ := loadK_elemT hl
      obtain ⟨b, cap, cur, htg, he, h0, hlt, hh, h1, h2, h3, h4⟩ := elemT_at hi hf hx
      obtain ⟨ds, hds, hcell⟩ := h4 _ _ (rd_get hlt)
      refine fin _ he (loadVar_run hti (hE.ti t i hti) (forall2_take (forall2_drop hds.toPC off) i.size) hs (by simp [toPC_len]; omega) fun j z hj => ?_)
      rw [add_off, cell_of_block hh, Nat.add_assoc]
      exact hcell _ _ (drop_take_get _ _ _ _ _ hj)
    | .undef, hl, _ => simp only [loadK] at hl; split at hl <;> cases hl
    | .void, hl, _ => simp only [loadK] at hl; split at hl <;> cases hl
    | .tup _, hl, _ => simp only [loadK] at hl; split at hl <;> cases hl
    | .sv (.agg _), hl, _ => simp only [loadK] at hl; split at hl <;> cases hl
    | .sv (.one (.bool _)), hl, _ | .sv (.one (.int _ _)), hl, _ | .sv (.one (.str _)), hl, _ | .sv (.one .nilS), hl, _ | .sv (.one (.slice _ _ _ _)), hl, _
    | .sv (.one (.clo _ _)), hl, _ | .sv (.one (.fnv _)), hl, _ | .sv (.one (.glob _)), hl, _ | .sv (.one .dead), hl, _ => simp only [loadK] at hl; split at hl <;> cases hl

end
end Go.Sv
