/- Functions that the evaluator does not tell: slices.Clone. -/
import Derived.Test.YtnooginekcnflaaEvW
namespace Go.Sv
open Go
set_option linter.unusedVariables false
set_option linter.unusedSimpArgs false

/-- A function's contract, from what its code does in a frame that holds its arguments. -/
theorem contract_of_code {P : Program} {E : Env} {f : Nat} {fn : Func} {c : Code} (hT : TabOK P E) (hf : P.funcs[f]? = some fn) (hb : fn.body = some c) {x : Tup (E.sig f).args} {r : Tup (E.sig f).res}
    (h : ∀ (X : Ctx), X.P = P → X.E = E → fn.ntmps ≤ X.n → ∀ (A : Fr) (a : Act) (w : World) (Q : Exit → Act → World → Prop), Inv X A { s := argsOf 0 (E.sig f).args x, b := [] } a.tmps w → a.defers = [] →
      (∀ (σ' : St) (A' : Fr) (a' : Act) (w' : World), resTup E σ' fn.results.toList fn.resultTypes.toList (E.sig f).res = some r → Inv X A' σ' a'.tmps w' → a'.defers = [] → Q .normal a' w' ∧ Q .ret a' w') → c.wp P Q a w) : Contract P E f x r := by
  intro w F0 G A vs hA
  let X : Ctx := { P := P, E := E, W := w, G := G, F0 := F0, n := (vs.toArray ++ Array.replicate (fn.ntmps - vs.toArray.size) undef).size }
  have hn : fn.ntmps ≤ X.n := by
    show fn.ntmps ≤ (vs.toArray ++ Array.replicate (fn.ntmps - vs.toArray.size) undef).size
    rw [Array.size_append, Array.size_replicate]; omega
  have hinv : Inv X A { s := argsOf 0 (E.sig f).args x, b := [] } (vs.toArray ++ Array.replicate (fn.ntmps - vs.toArray.size) undef) w := by
    have hsl := args_slots hA.rel
    refine ⟨rfl, Kept.refl G w, hA.glob, fun i => ?_, fun d tid cs hd => by simp [getB] at hd, ?_, fun p hp => ?_⟩
    · rcases getS_mem (argsOf 0 (E.sig f).args x) i with h1 | h1
      · show RP _ _ _ (getS _ i) _
        rw [h1]; trivial
      · obtain ⟨q, v, h2, h3, h4⟩ := hsl _ h1
        have hqi : q = i := by simp only at h2; omega
        subst hqi
        have hlt := (List.getElem?_eq_some_iff.1 h3).1
        have : (vs.toArray ++ Array.replicate (fn.ntmps - vs.toArray.size) undef).getD q undef = v := by
          rw [Array.getD_eq_getD_getElem?, Array.getElem?_append_left (by simpa using hlt)]
          simp [h3]
        rw [this]; exact h4
    · exact ⟨fun d b hb => (by rw [hA.bx] at hb; cases hb), fun n b l hb => ⟨.inr (hA.tgm n b l hb).1, (hA.tgm n b l hb).2⟩, fun d d' b hb => (by rw [hA.bx] at hb; cases hb), hA.tgi, fun d n b l hb => (by rw [hA.bx] at hb; cases hb), hA.f0⟩
    · obtain ⟨q, v, _, _, h4⟩ := hsl p hp; exact ⟨v, h4⟩
  refine calls_of_wp hf hb (h X rfl rfl hn A _ w _ hinv rfl fun σ' A' a' w' hres hi' hd' => ?_)
  obtain ⟨v, hv, hd⟩ := results_sound (X := X) hT.types hi' hres
  have : a'.defers = [] ∧ ∃ v, (results fn a'.tmps).run P w' = .ok v w' ∧ Returns G F0 w (E.sig f).res r (.returned v) w' := ⟨hd', v, hv, v, rfl, hi'.kept, hd⟩
  exact ⟨this, this⟩

/-! ### slices.Clone -/
def cloneA (T : TypeId) (p1 : String) : Array Oper := #[{ dst := some 2, op := .assign (.const (.slice none 0 0)), type := T, pos := p1, after := #[], guard := none }]
def cloneB (T B : TypeId) (p1 p2 : String) (a2 : Array Edge) : Array Oper :=
  #[{ dst := some 3, op := .move (.tmp 0), type := T, pos := p1, after := #[], guard := none },
    { dst := some 4, op := .binOp .eql T (.tmp 3) (.const (.slice none 0 0)) T, type := B, pos := p2, after := a2, guard := none }]
def cloneC (T : TypeId) (p1 p2 p3 p4 : String) (a3 a4 : Array Edge) : Array Oper :=
  #[{ dst := some 5, op := .buildSlice T 0 #[], type := T, pos := p1, after := #[], guard := none },
    { dst := some 6, op := .move (.tmp 0), type := T, pos := p2, after := #[], guard := none },
    { dst := some 7, op := .call { callee := .builtin .append, args := #[.tmp 5, .tmp 6], argTypes := #[T, T] }, type := T, pos := p3, after := a3, guard := none },
    { dst := some 2, op := .assign (.tmp 7), type := T, pos := p4, after := a4, guard := none }]
def cloneBody (T B : TypeId) : Code :=
  (Code.region 0 (cloneA T "slices.go:355") false).seq
    (((Code.region 1 (cloneB T B "slices.go:357" "slices.go:357" #[{ on := 0, ground := .data }]) false).seq
      (Code.cond (.tmp 4) ((Code.region 2 (cloneA T "slices.go:358") false).seq Code.ret) Code.skip)).seq
      ((Code.region 3 (cloneC T "slices.go:362" "slices.go:362" "slices.go:362" "slices.go:362" #[{ on := 0, ground := .data }, { on := 1, ground := .data }]
        #[{ on := 2, ground := .data }, { on := 2, ground := .chain }, { on := 0, ground := .phase }, { on := 1, ground := .phase }, { on := 2, ground := .phase }]) false).seq Code.ret))

/-- One operation, stepped by hand. -/
theorem wpOps_one {P : Program} {ops : Array Oper} {Q : Exit → Act → World → Prop} {i : Nat} {o : Oper} {rest : List Nat} {a : Act} {w : World} (ho : ops[i]? = some o) (hg : o.guard = none) (h : o.wp P a w (wpOps P ops Q rest) Q) : wpOps P ops Q (i :: rest) a w := by
  rw [wpOps_cons]
  unfold wpOp
  simp only [ho, Region.wanted, hg, if_true]
  exact .inl h

theorem clone_wp {X : Ctx} (hT : TabOK X.P X.E) {T B e : TypeId} {i ie : TI} {u : Ty} (hi : X.E.ti T = some i) (hid : i.d = .slice e) (hty : i.ty = some (.slice e u)) (hie : X.E.ti e = some ie) (hs0 : 0 < ie.size) (hsz : ie.size = u.sz) (hety : ie.ty = some u)
    (hn : 8 ≤ X.n) {xs : List u.den} (hroom : roomOk xs.length ie.bytes = true) {A : Fr} {a : Act} {w : World} {Q : Exit → Act → World → Prop} (hinv : Inv X A { s := [(0, .sv (.one (.slice e u xs .no)))], b := [] } a.tmps w) (hdef : a.defers = [])
    (hq : ∀ (σ' : St) (A' : Fr) (a' : Act) (w' : World) (g : Tag), σ'.get 2 = .sv (.one (.slice e u xs g)) → (g = .nil ∨ g = .own (tagOf 7 0 0)) → Inv X A' σ' a'.tmps w' → a'.defers = [] → Q .normal a' w' ∧ Q .ret a' w') : (cloneBody T B).wp X.P Q a w := by
  have hR : RunOK X.P X.E (fun _ _ => none) := fun f x r h => by cases h
  have ht := hT.types.ti T i hi
  have tynil : X.E.typed T (.sv (.one .nilS)) = .sv (.one (.slice e u [] .nil)) := by simp [Env.typed, hi, hid, hty]
  unfold cloneBody
  -- the result is nil
  refine wp_seq (wp_region ?_)
  refine wpOps_one (o := { dst := some 2, op := .assign (.const (.slice none 0 0)), type := T, pos := "slices.go:355", after := #[], guard := none }) rfl rfl ?_
  refine sound_move (σ := { s := [(0, .sv (.one (.slice e u xs .no)))], b := [] }) (.inr rfl) (fun d hd => by cases hd; exact Nat.lt_of_lt_of_le (by decide) hn) A a w hinv hdef _ _ fun A1 a1 w1 h1 d1 => ?_
  show ((_ : Code).seq _).wp X.P Q a1 w1
  refine wp_seq (wp_seq (wp_region ?_))
  refine wpOps_one (o := { dst := some 3, op := .move (.tmp 0), type := T, pos := "slices.go:357", after := #[], guard := none }) rfl rfl ?_
  refine sound_move (.inl rfl) (fun d hd => by cases hd; exact Nat.lt_of_lt_of_le (by decide) hn) A1 a1 w1 h1 d1 _ _ fun A2 a2 w2 h2 d2 => ?_
  refine wpOps_one (o := { dst := some 4, op := .binOp .eql T (.tmp 3) (.const (.slice none 0 0)) T, type := B, pos := "slices.go:357", after := #[{ on := 0, ground := .data }], guard := none }) rfl rfl ?_
  -- is it nil?
  obtain ⟨d, hu, hk⟩ := ht.und
  rw [hid] at hk
  cases d <;> try exact hk.elim
  have hk' : e = _ := hk
  subst hk'
  have hv : RP (X.F A2) A2 w2 (.sv (.one (.slice e u xs .no))) (a2.eval (.tmp 3)) := h2.slot 3
  have hv' : Cl (X.F A2) w2 (.slice e u) xs [a2.eval (.tmp 3)] := hv
  rw [Cl] at hv'
  obtain ⟨ad, cap, he, _, hrow⟩ := hv'
  simp only [List.cons.injEq, and_true] at he
  have hrun : (execOp a2.eval { dst := some 4, op := .binOp .eql T (.tmp 3) (.const (.slice none 0 0)) T, type := B, pos := "slices.go:357", after := #[{ on := 0, ground := .data }], guard := none }).run X.P w2 = .ok (.value (.bool ad.isNone)) w2 := by
    have hn0 : a2.eval (.const (.slice none 0 0)) = .slice none 0 0 := rfl
    simp [execOp, he, hn0, eqGuard, binOp, run_equal_slice_nil w2 T e ad xs.length cap hu]
  refine wp_value hrun ?_
  have h3 := h2.put (dst := some 4) (p := .sv (.one (.bool ad.isNone))) (v := .bool ad.isNone) (fun d hd => by cases hd; exact Nat.lt_of_lt_of_le (by decide) hn) fun _ => rfl
  have d3 : (a2.put (some 4) (.bool ad.isNone)).defers = [] := by rw [put_defers]; exact d2
  generalize a2.put (some 4) (.bool ad.isNone) = a3 at h3 d3
  show (Code.cond _ _ _).wp X.P _ a3 w2
  have hc : a3.eval (.tmp 4) = .bool ad.isNone := h3.slot 4
  cases had : ad with
  | none =>
    have hx : xs = [] := by
      rcases hrow with h | ⟨b, h, _⟩
      · exact h
      · rw [had] at h; cases h
    subst hx
    rw [had] at hc
    refine wp_cond_true hc (wp_seq (wp_region ?_))
    refine wpOps_one (o := { dst := some 2, op := .assign (.const (.slice none 0 0)), type := T, pos := "slices.go:358", after := #[], guard := none }) rfl rfl ?_
    refine sound_move (.inr rfl) (fun d hd => by cases hd; exact Nat.lt_of_lt_of_le (by decide) hn) A2 a3 w2 h3 d3 _ _ fun A4 a4 w4 h4 d4 => ?_
    refine wp_ret ((hq _ A4 a4 w4 .nil ?_ (.inl rfl) h4 d4).2)
    rw [St.get_put, if_pos rfl]
    exact tynil
  | some b =>
    rw [had] at hc
    refine wp_cond_false hc (wp_skip ?_)
    show ((Code.region _ _ _).seq _).wp X.P Q a3 w2
    have hd : ∀ o ∈ (cloneC T "slices.go:362" "slices.go:362" "slices.go:362" "slices.go:362" #[{ on := 0, ground := .data }, { on := 1, ground := .data }] #[{ on := 2, ground := .data }, { on := 2, ground := .chain }, { on := 0, ground := .phase }, { on := 1, ground := .phase }, { on := 2, ground := .phase }]).toList, ∀ d, o.dst = some d → d < X.n := fun o ho d hd => by
      simp only [cloneC, List.mem_cons, List.not_mem_nil, or_false] at ho
      rcases ho with rfl | rfl | rfl | rfl <;> cases hd <;> exact Nat.lt_of_lt_of_le (by decide) hn
    obtain ⟨σ', he2, hg⟩ : ∃ σ' : St, opsK X.E (fun _ _ => none) (cloneC T "slices.go:362" "slices.go:362" "slices.go:362" "slices.go:362" #[{ on := 0, ground := .data }, { on := 1, ground := .data }] #[{ on := 2, ground := .data }, { on := 2, ground := .chain }, { on := 0, ground := .phase }, { on := 1, ground := .phase }, { on := 2, ground := .phase }]).toList (cloneC T "slices.go:362" "slices.go:362" "slices.go:362" "slices.go:362" #[{ on := 0, ground := .data }, { on := 1, ground := .data }] #[{ on := 2, ground := .data }, { on := 2, ground := .chain }, { on := 0, ground := .phase }, { on := 1, ground := .phase }, { on := 2, ground := .phase }]).toList
        (((({ s := [(0, .sv (.one (.slice e u xs .no)))], b := [] } : St).put (some 2) (X.E.typed T (.sv (.one .nilS)))).put (some 3) (X.E.typed T (.sv (.one (.slice e u xs .no))))).put (some 4) (.sv (.one (.bool ad.isNone)))) some = some σ' ∧ σ'.get 2 = .sv (.one (.slice e u xs (.own (tagOf 7 0 0)))) := by
      simp [opsK, opGK, opK, cloneC, hi, hid, hty, hie, hs0, hsz, hety, elemsOf, partTags, St.release, St.kill, St.put, St.ev, St.get, getS, St.map, PV.map, SV.map, PC.mapTag, Env.typed, appendK, tagOf, mem, Bool.cond_eq_ite, Nat.beq_eq, Ty.sz_pos u, hroom]
    obtain ⟨σ2, hK, hops⟩ := ops_sound (X := X) hT hR hd _ 0 _ rfl he2
    cases hK
    refine wp_seq (wp_region ?_)
    have := hops A2 a3 w2 h3 d3 (Exit.then (Code.ret.wp X.P Q) Q) fun A4 a4 w4 h4 d4 => wp_ret ((hq _ A4 a4 w4 _ hg (.inr rfl) h4 d4).2)
    rw [List.range_eq_range']
    exact this

/-- slices.Clone gives the same row, anew. -/
theorem clone_contract {P : Program} {E : Env} {f : Nat} {fn : Func} {T B e : TypeId} {i ie : TI} {u : Ty} (hT : TabOK P E) (hf : P.funcs[f]? = some fn) (hb : fn.body = some (cloneBody T B)) (hres : fn.results = #[.tmp 2]) (hrt : fn.resultTypes = #[T]) (hnt : fn.ntmps = 8)
    (hsig : E.sig f = ⟨[.v (.slice e u) []], [.v (.slice e u) [0]], false⟩) (hi : E.ti T = some i) (hid : i.d = .slice e) (hty : i.ty = some (.slice e u)) (hie : E.ti e = some ie) (hs0 : 0 < ie.size) (hsz : ie.size = u.sz) (hety : ie.ty = some u)
    {x : Tup (E.sig f).args} {r : Tup (E.sig f).res} {xs : List u.den} (hx : HEq x xs) (hr : HEq r xs) (hroom : roomOk xs.length ie.bytes = true) : Contract P E f x r := by
  refine contract_of_code hT hf hb fun X hP hE hn A a w Q hinv hdef hq => ?_
  subst hP
  subst hE
  generalize X.E.sig f = sg at hsig x r hx hr hinv hq
  subst hsig
  cases hx
  cases hr
  refine clone_wp hT hi hid hty hie hs0 hsz hety (by omega) hroom (by simpa [argsOf, Kd.unpack, Ty.isPair, leafs, Ty.toPC, mem] using hinv) hdef fun σ' A' a' w' g hg1 hg2 hi' hd' => ?_
  refine hq σ' A' a' w' ?_ hi' hd'
  rw [hres, hrt]
  rcases hg2 with rfl | rfl
  · simp [resTup, resSVs, resSV, hg1, typedSVs, Env.typed, handed, handAll, resSlots, Kd.hand, leafHand, SV.cells, mem, Hand.ok, Hand.srcs, nodup, packAll, Kd.pack, Ty.isPair, Ty.ofPC, rowOf, Nat.beq_refl]
  · simp [resTup, resSVs, resSV, hg1, typedSVs, Env.typed, handed, handAll, resSlots, Kd.hand, leafHand, SV.cells, mem, Hand.ok, Hand.srcs, nodup, packAll, Kd.pack, Ty.isPair, Ty.ofPC, rowOf, Nat.beq_refl]

end Go.Sv
