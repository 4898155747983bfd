/- Tables as trees, and what is checked of a seat's tables, row by row. -/
import Derived.Test.YtnooginekcnflaaEvFa
namespace Go.Sv
open Go
set_option linter.unusedVariables false
set_option linter.unusedSimpArgs false

inductive Tree (α : Type) where
  | leaf
  | node (k : Nat) (v : α) (l r : Tree α)

def Tree.find {α : Type} : Tree α → Nat → Option α
  | .leaf, _ => none
  | .node k v l r, n => bif Nat.beq n k then some v else bif Nat.blt n k then l.find n else r.find n
def Tree.list {α : Type} : Tree α → List (Nat × α)
  | .leaf => []
  | .node k v l r => (k, v) :: (l.list ++ r.list)
theorem Tree.find_mem {α : Type} : ∀ {t : Tree α} {n : Nat} {v : α}, t.find n = some v → (n, v) ∈ t.list
  | .node k w l r, n, v, h => by
    simp only [Tree.find] at h
    cases hb : Nat.beq n k with
    | true =>
      simp only [hb, cond_true, Option.some.injEq] at h
      rw [Nat.eq_of_beq_eq_true hb, h]
      exact List.mem_cons_self ..
    | false =>
      simp only [hb, cond_false] at h
      cases hl : Nat.blt n k with
      | true => simp only [hl, cond_true] at h; exact List.mem_cons_of_mem _ (List.mem_append_left _ (Tree.find_mem h))
      | false => simp only [hl, cond_false] at h; exact List.mem_cons_of_mem _ (List.mem_append_right _ (Tree.find_mem h))

/-! ### rows of types -/
def valIs : Value → Value → Bool
  | .bool a, .bool b => a == b
  | .int k a, .int k' b => decide (k = k') && a == b
  | .string a, .string b => a.data.toList == b.data.toList
  | .slice none 0 0, .slice none 0 0 => true
  | .nilFunc, .nilFunc => true
  | _, _ => false
theorem valIs_eq {a b : Value} (h : valIs a b = true) : a = b := by
  unfold valIs at h
  split at h
  · rw [eq_of_beq h]
  · simp only [Bool.and_eq_true, decide_eq_true_eq, beq_iff_eq] at h
    rw [h.1, h.2]
  · have h1 := eq_of_beq h
    rename_i a b
    obtain ⟨⟨x⟩⟩ := a
    obtain ⟨⟨y⟩⟩ := b
    simp only at h1
    rw [h1]
  · rfl
  · rfl
  · cases h
def valsAre : List Value → List Value → Bool
  | [], [] => true
  | a :: l, b :: m => valIs a b && valsAre l m
  | _, _ => false
theorem valsAre_eq : ∀ {l m : List Value}, valsAre l m = true → l = m
  | [], [], _ => rfl
  | a :: l, b :: m, h => by
    simp only [valsAre, Bool.and_eq_true] at h
    rw [valIs_eq h.1, valsAre_eq h.2]

def descIs : D → TypeDesc → Bool
  | .bool, .bool => true
  | .int k, .int k' => decide (k = k')
  | .str, .string => true
  | .slice e, .slice e' => Nat.beq e e'
  | .struct fs, .struct fields => decide (fields.toList.map (fun f => (f.offset, f.type)) = fs)
  | .array n e, .array n' e' => Nat.beq n n' && Nat.beq e e'
  | _, _ => false
theorem descIs_ok {d : D} {t : TypeDesc} (h : descIs d t = true) : DOK d t := by
  unfold descIs at h
  split at h <;> try (cases h; done)
  · trivial
  · show _ = _; exact of_decide_eq_true h
  · trivial
  · exact Nat.eq_of_beq_eq_true h
  · show _ = _; exact of_decide_eq_true h
  · simp only [Bool.and_eq_true] at h; exact ⟨Nat.eq_of_beq_eq_true h.1, Nat.eq_of_beq_eq_true h.2⟩

def infoIs (P : Program) (t : TypeId) (i : TI) : Bool :=
  match P.info? t with
  | none => false
  | some ti => Nat.beq ti.size i.size && (Nat.beq ti.bytes i.bytes && (match ti.zero with
    | none => false
    | some z => Nat.beq z.cells.size i.size && (match i.ty with | none => true | some u => valsAre z.cells.toList (zeroVals u))))
def undIs (P : Program) (t : TypeId) (i : TI) : Bool :=
  match P.underlying t with
  | none => false
  | some d => descIs i.d d
def sizesAre (P : Program) : List (Nat × TypeId) → Bool
  | [] => true
  | q :: r => (match P.info? q.2 with | none => false | some tf => !(Nat.beq tf.size 0)) && sizesAre P r
def laysAre (n : Nat) (u : Ty) : Nat → List (Nat × TypeId) → Bool
  | _, [] => true
  | f, q :: r => (match Ty.offs n f u with | some (o, _) => Nat.beq o q.1 | none => false) && laysAre n u (f + 1) r
def structIs (P : Program) (i : TI) : Bool :=
  match i.d with
  | .struct fs => sizesAre P fs && (match i.ty with | none => true | some u => laysAre fs.length u 0 fs)
  | _ => true
def elemIs (P : Program) (i : TI) : Bool :=
  match i.d, i.ty with
  | .slice e, some (.slice e' u) => Nat.beq e e' && (match P.info? e with | none => false | some te => Nat.beq te.size u.sz)
  | .array _ e, some (.slice _ _) => false
  | .array _ e, _ => (match P.info? e with | none => false | some _ => true)
  | _, some (.slice _ _) => false
  | _, _ => true
def rowIs (P : Program) (t : TypeId) (i : TI) : Bool :=
  infoIs P t i && (undIs P t i && (structIs P i && (elemIs P i && ((match i.ty with | none => true | some u => Nat.beq u.sz i.size) && (Nat.beq i.size 0 || !(Nat.beq i.bytes 0))))))

theorem sizesAre_ok {P : Program} : ∀ {fs : List (Nat × TypeId)}, sizesAre P fs = true → ∀ q ∈ fs, ∃ tf, P.info? q.2 = some tf ∧ tf.size ≠ 0
  | q :: r, h, p, hp => by
    simp only [sizesAre, Bool.and_eq_true] at h
    rcases List.mem_cons.1 hp with rfl | hp
    · have h1 := h.1
      cases hi : P.info? p.2 with
      | none => rw [hi] at h1; cases h1
      | some tf =>
        rw [hi] at h1
        refine ⟨tf, rfl, fun e => ?_⟩
        simp [e] at h1
    · exact sizesAre_ok h.2 p hp
theorem laysAre_ok {n : Nat} {u : Ty} : ∀ {fs : List (Nat × TypeId)} {g : Nat}, laysAre n u g fs = true → ∀ f off ft, fs[f]? = some (off, ft) → ∃ v, Ty.offs n (g + f) u = some (off, v)
  | q :: r, g, h, f, off, ft, hf => by
    simp only [laysAre, Bool.and_eq_true] at h
    cases f with
    | zero =>
      simp only [List.getElem?_cons_zero, Option.some.injEq] at hf
      subst hf
      have h1 := h.1
      rw [Nat.add_zero]
      cases ho : Ty.offs n g u with
      | none => rw [ho] at h1; cases h1
      | some p =>
        obtain ⟨o, v⟩ := p
        rw [ho] at h1
        have h2 : Nat.beq o off = true := h1
        exact ⟨v, by rw [Nat.eq_of_beq_eq_true h2]⟩
    | succ f =>
      rw [show g + (f + 1) = g + 1 + f by omega]
      exact laysAre_ok h.2 f off ft (by simpa using hf)

theorem rowIs_ok {P : Program} {t : TypeId} {i : TI} (h : rowIs P t i = true)
    (heq : i.eq = true → ∀ u, i.ty = some u → u.flat = true ∧ ∀ (w : World) (op : BinOp) (x y : Operand) (a b : u.den),
      (eqGuard op t x y (.agg (flatVals u a).toArray) (.agg (flatVals u b).toArray)).run P w = .ok () w ∧ (Op.equalIn 10000 t (.agg (flatVals u a).toArray) (.agg (flatVals u b).toArray)).run P w = .ok (eqD u a b) w) : TIOK P t i := by
  unfold rowIs at h
  simp only [Bool.and_eq_true, Bool.or_eq_true, Bool.not_eq_true'] at h
  obtain ⟨h1, h2, h3, h4, h5, h6⟩ := h
  refine ⟨?_, ?_, fun u hu => ?_, fun hp => ?_, fun fs hfs q hq => ?_, fun fs u hfs hu f off ft hf => ?_, heq⟩
  · unfold infoIs at h1
    split at h1
    · cases h1
    · rename_i ti hti
      simp only [Bool.and_eq_true] at h1
      obtain ⟨k1, k2, k3⟩ := h1
      split at k3
      · cases k3
      · rename_i z hz
        simp only [Bool.and_eq_true] at k3
        refine ⟨ti, hti, Nat.eq_of_beq_eq_true k1, Nat.eq_of_beq_eq_true k2, z, hz, Nat.eq_of_beq_eq_true k3.1, fun u hu => ?_⟩
        have k4 := k3.2
        rw [hu] at k4
        exact valsAre_eq k4
  · unfold undIs at h2
    split at h2
    · cases h2
    · rename_i d hd
      exact ⟨d, hd, descIs_ok h2⟩
  · rw [hu] at h5
    exact Nat.eq_of_beq_eq_true h5
  · rcases h6 with h6 | h6
    · have := Nat.eq_of_beq_eq_true h6; omega
    · cases hb : i.bytes with
      | zero => rw [hb] at h6; simp at h6
      | succ n => omega
  · unfold structIs at h3
    rw [hfs] at h3
    simp only [Bool.and_eq_true] at h3
    exact sizesAre_ok h3.1 q hq
  · unfold structIs at h3
    rw [hfs] at h3
    simp only [Bool.and_eq_true, hu] at h3
    have := laysAre_ok h3.2 f off ft hf
    rwa [Nat.zero_add] at this

theorem elemIs_ok {P : Program} {E : Env} (h : ∀ t i, E.ti t = some i → rowIs P t i = true) : ElemsOK P E := by
  have key : ∀ t i e u, E.ti t = some i → i.ty = some (.slice e u) → i.d = .slice e ∧ ∃ te, P.info? e = some te ∧ te.size = u.sz := fun t i e u hi hty => by
    have h1 := h t i hi
    unfold rowIs at h1
    simp only [Bool.and_eq_true] at h1
    have h2 := h1.2.2.2.1
    unfold elemIs at h2
    rw [hty] at h2
    cases hd : i.d with
    | slice e' =>
      rw [hd] at h2
      simp only [Bool.and_eq_true] at h2
      have he := Nat.eq_of_beq_eq_true h2.1
      subst he
      refine ⟨rfl, ?_⟩
      have h3 := h2.2
      cases hi : P.info? e' with
      | none => rw [hi] at h3; cases h3
      | some te => rw [hi] at h3; exact ⟨te, rfl, Nat.eq_of_beq_eq_true h3⟩
    | _ => rw [hd] at h2; cases h2
  refine ⟨fun t i e u hi hty => ?_, fun t i e u hi hd hty => (key t i e u hi hty).2, fun t i n e hi hd => ?_⟩
  · obtain ⟨h1, h2⟩ := key t i e u hi hty
    exact ⟨e, h1, h2⟩
  · have h1 := h t i hi
    unfold rowIs at h1
    simp only [Bool.and_eq_true] at h1
    have h2 := h1.2.2.2.1
    unfold elemIs at h2
    rw [hd] at h2
    have : ∀ o : Option TypeInfo, (match o with | none => false | some _ => true) = true → ∃ ti, o = some ti := fun o ho => by
      cases o with
      | none => cases ho
      | some ti => exact ⟨ti, rfl⟩
    cases hty : i.ty with
    | none => rw [hty] at h2; exact this _ h2
    | some u => rw [hty] at h2; cases u <;> first | exact this _ h2 | cases h2

/-! ### when two structs are equal -/
def plainD (P : Program) (t : TypeId) : Ty → Bool
  | .bool => (match P.underlying t with | some .bool => true | _ => false)
  | .int k => (match P.underlying t with | some (.int _) => true | _ => false)
  | .str => (match P.underlying t with | some .string => true | _ => false)
  | _ => false
/-- The fields of a struct of plain cells, one cell each, in order. -/
def fieldsFit (P : Program) : List Field → Ty → Nat → Bool
  | [f], u, off => (f.name != "_") && (Nat.beq f.offset off && (plainD P f.type u))
  | f :: g :: r, .pair a b, off => (f.name != "_") && (Nat.beq f.offset off && (plainD P f.type a && fieldsFit P (g :: r) b (off + 1)))
  | _, _, _ => false

theorem part_plain {P : Program} {t : TypeId} {u : Ty} (h : plainD P t u = true) {xs : Array Value} {off : Nat} {v : Value} (hx : xs[off]? = some v) (w : World) : (part t xs off).run P w = .ok v w := by
  have hag : (isAgg t).run P w = .ok false w := by
    unfold isAgg underlying
    simp only [Sem.run_bind, run_program, Result.andThen_ok]
    unfold plainD at h
    split at h <;> try (cases h; done)
    all_goals
      split at h
      · rename_i hu; simp [hu]
      · cases h
  unfold part
  simp only [Sem.run_bind, hag, Result.andThen_ok, Bool.false_eq_true, if_false, hx]
  rfl

theorem scalar_eq {P : Program} {t : TypeId} {u : Ty} (h : plainD P t u = true) (d : Nat) (a b : u.den) (w : World) :
    ∃ x y, flatVals u a = [x] ∧ flatVals u b = [y] ∧ (Op.equalIn (d + 1) t x y).run P w = .ok (eqD u a b) w := by
  unfold plainD at h
  split at h <;> try (cases h; done)
  · split at h
    · rename_i hu; exact ⟨_, _, rfl, rfl, run_equalIn_bool w d t a b hu⟩
    · cases h
  · split at h
    · rename_i hu; exact ⟨_, _, rfl, rfl, run_equalIn_int w d t _ _ a b hu⟩
    · cases h
  · split at h
    · rename_i hu; exact ⟨_, _, rfl, rfl, run_equalIn_string w d t a b hu⟩
    · cases h

theorem eqFields_fit {P : Program} (d : Nat) (w : World) (xs ys : Array Value) : ∀ (fs : List Field) (u : Ty) (off : Nat) (a b : u.den), fieldsFit P fs u off = true → (∀ j v, (flatVals u a)[j]? = some v → xs[off + j]? = some v) → (∀ j v, (flatVals u b)[j]? = some v → ys[off + j]? = some v) →
    (Op.eqFields (d + 1) xs ys fs).run P w = .ok (eqD u a b) w
  | [], u, off, a, b, h, _, _ => by simp [fieldsFit] at h
  | [f], u, off, a, b, h, hx, hy => by
    simp only [fieldsFit, Bool.and_eq_true, bne_iff_ne] at h
    obtain ⟨h1, h2, h3⟩ := h
    have h2' := Nat.eq_of_beq_eq_true h2
    obtain ⟨x, y, e1, e2, e3⟩ := scalar_eq h3 d a b w
    have p1 := part_plain h3 (hx 0 x (by rw [e1]; rfl)) w
    have p2 := part_plain h3 (hy 0 y (by rw [e2]; rfl)) w
    rw [Nat.add_zero] at p1 p2
    rw [← h2'] at p1 p2
    simp only [Op.eqFields, ne_eq, h1, not_false_eq_true, if_true, Sem.run_bind, p1, p2, e3, Result.andThen_ok]
    cases eqD u a b <;> rfl
  | f :: g :: r, .pair p q, off, a, b, h, hx, hy => by
    simp only [fieldsFit, Bool.and_eq_true, bne_iff_ne] at h
    obtain ⟨h1, h2, h3, h4⟩ := h
    have h2' := Nat.eq_of_beq_eq_true h2
    obtain ⟨x, y, e1, e2, e3⟩ := scalar_eq h3 d a.1 b.1 w
    have p1 := part_plain h3 (hx 0 x (by simp [flatVals, e1])) w
    have p2 := part_plain h3 (hy 0 y (by simp [flatVals, e2])) w
    rw [Nat.add_zero] at p1 p2
    rw [← h2'] at p1 p2
    have ih := eqFields_fit d w xs ys (g :: r) q (off + 1) a.2 b.2 h4 (fun j v hj => by
      rw [show off + 1 + j = off + (j + 1) by omega]
      exact hx (j + 1) v (by simpa [flatVals, e1] using hj)) (fun j v hj => by
      rw [show off + 1 + j = off + (j + 1) by omega]
      exact hy (j + 1) v (by simpa [flatVals, e2] using hj))
    rw [Op.eqFields]
    simp only [ne_eq, h1, not_false_eq_true, if_true, Sem.run_bind, p1, p2, e3, Result.andThen_ok]
    show _ = Result.ok (eqD p a.1 b.1 && eqD q a.2 b.2) w
    cases eqD p a.1 b.1 with
    | true => simp only [Bool.not_true, Bool.false_eq_true, if_false, Bool.true_and]; exact ih
    | false => rfl
  | f :: g :: r, .bool, off, a, b, h, _, _ | f :: g :: r, .int _, off, a, b, h, _, _ | f :: g :: r, .str, off, a, b, h, _, _ | f :: g :: r, .fn, off, a, b, h, _, _ | f :: g :: r, .slice _ _, off, a, b, h, _, _ => by simp [fieldsFit] at h

theorem eq_fit {P : Program} {t : TypeId} {u : Ty} (hfl : u.flat = true) (hty : P.underlying t = some (.struct (P.fieldsOf t))) (hp : P.stoodInHeld t = false) (hg : P.eqGuardType P.depth t = false) (hfit : fieldsFit P (P.fieldsOf t).toList u 0 = true) :
    u.flat = true ∧ ∀ (w : World) (op : BinOp) (x y : Operand) (a b : u.den),
      (eqGuard op t x y (.agg (flatVals u a).toArray) (.agg (flatVals u b).toArray)).run P w = .ok () w ∧ (Op.equalIn 10000 t (.agg (flatVals u a).toArray) (.agg (flatVals u b).toArray)).run P w = .ok (eqD u a b) w :=
  ⟨hfl, fun w op x y a b => ⟨run_eqGuard_agg w op t x y _ _ hg, by
    rw [run_equalIn_struct w 9999 t _ _ hty hp]
    exact eqFields_fit 9998 w _ _ _ u 0 a b hfit (fun j v hj => by simpa using hj) (fun j v hj => by simpa using hj)⟩⟩

end Go.Sv
