/- What is handed on (to a callee, to the next pass of a loop, to a caller) stands as it is told there. -/
import Derived.Test.YtnooginekcnflaaEvM
namespace Go.Sv
open Go
set_option linter.unusedVariables false
set_option linter.unusedSimpArgs false

inductive Same : PC → PC → Prop where
  | slice (e : TypeId) (t : Ty) (xs : List t.den) (g : Tag) : Same (.slice e t xs g) (.slice e t xs .no)
  | nilS (e : TypeId) (t : Ty) : Same .nilS (.slice e t [] .no)
  | clo (f : Nat) : Same (.clo f []) (.fnv ⟨f, []⟩)
  | bool (b : Bool) : Same (.bool b) (.bool b)
  | int (k : IntKind) (n : Int) : Same (.int k n) (.int k n)
  | str (s : ByteArray) : Same (.str s) (.str s)

theorem All2.append {α β : Type} {R : α → β → Prop} {a b : List α} {c d : List β} (h : All2 R a c) (k : All2 R b d) : All2 R (a ++ b) (c ++ d) := by
  induction h with
  | nil => exact k
  | cons h0 _ ih => exact .cons h0 ih

theorem same_of : ∀ {t : Ty} {x : t.den} {cs : List PC}, t.ofPC cs = some x → All2 Same cs (t.toPC x)
  | .bool, x, cs, h => by obtain rfl := boolOf_eq h; exact .cons (.bool _) .nil
  | .int k, x, cs, h => by obtain rfl := intOf_eq h; exact .cons (.int _ _) .nil
  | .str, x, cs, h => by obtain rfl := strOf_eq h; exact .cons (.str _) .nil
  | .fn, x, cs, h => by obtain rfl := fnOf_eq h; exact .cons (.clo _) .nil
  | .slice e t, xs, cs, h => by
    rcases rowOf_eq h with ⟨rfl, rfl⟩ | ⟨g, rfl⟩
    · exact .cons (.nilS e t) .nil
    · exact .cons (.slice e t xs g) .nil
  | .pair a b, x, cs, h => by
    unfold Ty.ofPC at h
    split at h
    · rename_i x1 y1 h1 h2
      cases h
      have := (same_of h1).append (same_of h2)
      rw [List.take_append_drop] at this
      exact this
    · cases h

def lookT : List (Option Nat × Nat) → Nat → Option Nat
  | [], _ => none
  | (s, d) :: r, m => if d = m then s else lookT r m
def lookB : List (Nat × Nat) → Nat → Option Nat
  | [], _ => none
  | (s, d) :: r, m => if d = m then some s else lookB r m

theorem nodup_cons {x : Nat} {r : List Nat} (h : nodup (x :: r) = true) : x ∉ r ∧ nodup r = true := by
  simp only [nodup, Bool.and_eq_true, Bool.not_eq_true'] at h
  exact ⟨fun hx => by (have h1 := h.1; rw [mem_iff.2 hx] at h1; cases h1), h.2⟩

theorem lookT_mem : ∀ {l : List (Option Nat × Nat)} {s : Option Nat} {m : Nat}, nodup (l.map (·.2)) = true → (s, m) ∈ l → lookT l m = s
  | (s', d) :: r, s, m, hn, h => by
    obtain ⟨h1, h2⟩ := nodup_cons hn
    unfold lookT
    rcases List.mem_cons.1 h with h | h
    · cases h; simp
    · have hne : d ≠ m := fun e => h1 (e ▸ List.mem_map.2 ⟨(s, m), h, rfl⟩)
      rw [if_neg hne]; exact lookT_mem h2 h
theorem lookT_some : ∀ {l : List (Option Nat × Nat)} {s : Nat} {m : Nat}, lookT l m = some s → (some s, m) ∈ l
  | (s', d) :: r, s, m, h => by
    unfold lookT at h
    split at h
    · rename_i e; rw [h, e]; exact List.mem_cons_self ..
    · exact List.mem_cons_of_mem _ (lookT_some h)
theorem lookB_mem : ∀ {l : List (Nat × Nat)} {s m : Nat}, nodup (l.map (·.2)) = true → (s, m) ∈ l → lookB l m = some s
  | (s', d) :: r, s, m, hn, h => by
    obtain ⟨h1, h2⟩ := nodup_cons hn
    unfold lookB
    rcases List.mem_cons.1 h with h | h
    · cases h; simp
    · have hne : d ≠ m := fun e => h1 (e ▸ List.mem_map.2 ⟨(s, m), h, rfl⟩)
      rw [if_neg hne]; exact lookB_mem h2 h
theorem lookB_some : ∀ {l : List (Nat × Nat)} {s m : Nat}, lookB l m = some s → (s, m) ∈ l
  | (s', d) :: r, s, m, h => by
    unfold lookB at h
    split at h
    · rename_i e; cases h; rw [e]; exact List.mem_cons_self ..
    · exact List.mem_cons_of_mem _ (lookB_some h)

theorem nodup_fst : ∀ {l : List (Nat × Nat)} {s d d' : Nat}, nodup (l.map (·.1)) = true → (s, d) ∈ l → (s, d') ∈ l → d = d'
  | (p, q) :: r, s, d, d', hn, h, h' => by
    obtain ⟨h1, h2⟩ := nodup_cons hn
    rcases List.mem_cons.1 h with h | h <;> rcases List.mem_cons.1 h' with h' | h'
    · cases h; cases h'; rfl
    · cases h; exact absurd (List.mem_map.2 ⟨_, h', rfl⟩) h1
    · cases h'; exact absurd (List.mem_map.2 ⟨_, h, rfl⟩) h1
    · exact nodup_fst h2 h h'
theorem nodup_src : ∀ {l : List (Option Nat × Nat)} {s d d' : Nat}, nodup (l.filterMap (·.1)) = true → (some s, d) ∈ l → (some s, d') ∈ l → d = d'
  | (none, q) :: r, s, d, d', hn, h, h' => by
    simp only [List.filterMap_cons] at hn
    rcases List.mem_cons.1 h with h | h
    · cases h
    · rcases List.mem_cons.1 h' with h' | h'
      · cases h'
      · exact nodup_src hn h h'
  | (some p, q) :: r, s, d, d', hn, h, h' => by
    simp only [List.filterMap_cons] at hn
    obtain ⟨h1, h2⟩ := nodup_cons hn
    rcases List.mem_cons.1 h with h | h <;> rcases List.mem_cons.1 h' with h' | h'
    · cases h; cases h'; rfl
    · cases h; exact (h1 (List.mem_filterMap.2 ⟨_, h', rfl⟩)).elim
    · cases h'; exact (h1 (List.mem_filterMap.2 ⟨_, h, rfl⟩)).elim
    · exact nodup_src h2 h h'

def Hand.fr (h : Hand) (A : Fr) : Fr := ⟨fun d => (lookB h.rb d).bind A.bx, fun m => (lookT h.ren m).bind A.tg⟩

structure Hand.Sub (h H : Hand) : Prop where
  ren : ∀ e ∈ h.ren, e ∈ H.ren
  pl : ∀ e ∈ h.pl, e ∈ H.pl
  rb : ∀ e ∈ h.rb, e ∈ H.rb
  pm : ∀ e ∈ h.pm, e ∈ H.pm
theorem Hand.Sub.refl (h : Hand) : h.Sub h := ⟨fun _ h => h, fun _ h => h, fun _ h => h, fun _ h => h⟩
theorem Hand.Sub.trans {a b c : Hand} (h : a.Sub b) (k : b.Sub c) : a.Sub c := ⟨fun e he => k.ren e (h.ren e he), fun e he => k.pl e (h.pl e he), fun e he => k.rb e (h.rb e he), fun e he => k.pm e (h.pm e he)⟩

structure Hand.OK (h : Hand) : Prop where
  dst : nodup (h.ren.map (·.2)) = true
  src : nodup h.srcs = true
  b1 : nodup (h.rb.map (·.1)) = true
  b2 : nodup (h.rb.map (·.2)) = true
  pl : ∀ x ∈ h.pl, x ∉ h.srcs
  pm : ∀ x ∈ h.pm, x ∉ h.rb.map (·.1)

theorem Hand.ok_iff {h : Hand} (hk : h.ok = true) : h.OK := by
  unfold Hand.ok at hk
  simp only [Bool.and_eq_true, List.all_eq_true, Bool.not_eq_true'] at hk
  obtain ⟨h1, h2, h3, h4, h5, h6⟩ := hk
  exact ⟨h1, h2, h3, h4, fun x hx hm => by (have h7 := h5 x hx; rw [mem_iff.2 hm] at h7; cases h7), fun x hx hm => by (have h7 := h6 x hx; rw [mem_iff.2 hm] at h7; cases h7)⟩

theorem sub_ren {h h' : Hand} {q : Option Nat × Nat} (k : ({ h with ren := q :: h.ren } : Hand).Sub h') : h.Sub h' := ⟨fun e he => k.ren e (List.mem_cons_of_mem _ he), k.pl, k.rb, k.pm⟩
theorem sub_pl {h h' : Hand} {q : List Nat} (k : ({ h with pl := q ++ h.pl } : Hand).Sub h') : h.Sub h' := ⟨k.ren, fun e he => k.pl e (List.mem_append_right _ he), k.rb, k.pm⟩
theorem sub_rb {h h' : Hand} {q : Nat × Nat} (k : ({ h with rb := q :: h.rb } : Hand).Sub h') : h.Sub h' := ⟨k.ren, k.pl, fun e he => k.rb e (List.mem_cons_of_mem _ he), k.pm⟩

theorem leafHand_sub : ∀ {own : List Nat} {slot j k : Nat} {cs : List PC} {h h' : Hand}, leafHand own slot j k cs h = some h' → h.Sub h'
  | own, slot, j, k, [], h, h', e => by simp only [leafHand, Option.some.injEq] at e; subst e; exact .refl _
  | own, slot, j, k, c :: r, h, h', e => by
    cases c with
    | slice e1 t xs g =>
      simp only [leafHand] at e
      cases hm : mem own k with
      | true =>
        simp only [hm, cond_true] at e
        cases g with
        | own n => exact sub_ren (leafHand_sub e)
        | nil => exact sub_ren (leafHand_sub e)
        | _ => cases e
      | false =>
        simp only [hm, cond_false] at e
        exact sub_pl (leafHand_sub e)
    | nilS =>
      simp only [leafHand] at e
      cases hm : mem own k with
      | true => simp only [hm, cond_true] at e; exact sub_ren (leafHand_sub e)
      | false => simp only [hm, cond_false] at e; exact leafHand_sub e
    | _ => simp only [leafHand] at e; exact leafHand_sub e

section
variable {X : Ctx} {σ : St}

/-- What a hand asks of those who hold it then. -/
structure Fits (X : Ctx) (A : Fr) (w : World) (H : Hand) (F' : Nat → Prop) : Prop where
  step : Step (X.F A) F' w w
  pl : ∀ m ∈ H.pl, ∀ b l, A.tg m = some (b, l) → ¬ F' b
  pm : ∀ d ∈ H.pm, ∀ b, A.bx d = some b → ¬ F' b

theorem leaf_sound {A : Fr} {w : World} {H : Hand} {F' : Nat → Prop} (hg : Good X A w) (hH : H.OK) (hf : Fits X A w H F') :
    ∀ {own : List Nat} {slot j k : Nat} {cs cs' : List PC} {h h' : Hand} {vs : List Value}, leafHand own slot j k cs h = some h' → h'.Sub H → All2 Same cs cs' → RCs (X.F A) A w cs vs → RCs F' (H.fr A) w (leafs own slot j k cs') vs
  | own, slot, j, k, [], cs', h, h', vs, e, hs, hc, hr => by cases hc; cases hr; exact .nil
  | own, slot, j, k, c :: r, c' :: r', h, h', v :: vs, e, hs, .cons hc0 hc, .cons hr0 hr => by
    have plain : ∀ {e1 : TypeId} {t : Ty} {xs : List t.den} {g : Tag}, (∀ n, g = .own n → n ∈ H.pl) → RC (X.F A) A w (.slice e1 t xs g) v → RC F' (H.fr A) w (.slice e1 t xs .no) v := fun hgn hv => by
      have h1 : RC F' A w (.slice _ _ _ _) v := RC.step hf.step ((Ext.refl A w).stays _) hv
      refine RC.slice_plain (A := A) (w := w) (F := F') ?_ h1
      rename_i g
      cases g with
      | own n => exact fun b l hb => ⟨hf.pl n (hgn n rfl) b l hb, (hg.tgm n b l hb).2⟩
      | _ => trivial
    cases hc0 with
    | slice e1 t xs g =>
      simp only [leafHand] at e
      simp only [leafs]
      cases hm : mem own k with
      | true =>
        simp only [hm, cond_true] at e ⊢
        cases g with
        | own n =>
          refine .cons ?_ (leaf_sound hg hH hf e hs hc hr)
          have hin : (some n, tagOf slot j k) ∈ H.ren := (leafHand_sub e |>.trans hs).ren _ (List.mem_cons_self ..)
          have hl : (H.fr A).tg (tagOf slot j k) = A.tg n := by simp [Hand.fr, lookT_mem hH.dst hin]
          rcases hr0 with ⟨h1, h2⟩ | ⟨b, l, h1, h2⟩
          · exact .inl ⟨hl.trans h1, h2⟩
          · exact .inr ⟨b, l, hl.trans h1, h2.step hf.step rfl⟩
        | nil =>
          refine .cons ?_ (leaf_sound hg hH hf e hs hc hr)
          have hin : (none, tagOf slot j k) ∈ H.ren := (leafHand_sub e |>.trans hs).ren _ (List.mem_cons_self ..)
          have hl : (H.fr A).tg (tagOf slot j k) = none := by simp [Hand.fr, lookT_mem hH.dst hin]
          exact .inl ⟨hl, hr0⟩
        | _ => cases e
      | false =>
        simp only [hm, cond_false] at e ⊢
        refine .cons ?_ (leaf_sound hg hH hf e hs hc hr)
        refine plain (fun n hn => ?_) hr0
        subst hn
        exact (leafHand_sub e |>.trans hs).pl _ (List.mem_append_left _ (List.mem_singleton.2 rfl))
    | nilS e1 t =>
      have hv : v = .slice none 0 0 := hr0
      simp only [leafHand] at e
      simp only [leafs]
      cases hm : mem own k with
      | true =>
        simp only [hm, cond_true] at e ⊢
        refine .cons ?_ (leaf_sound hg hH hf e hs hc hr)
        have hin : (none, tagOf slot j k) ∈ H.ren := (leafHand_sub e |>.trans hs).ren _ (List.mem_cons_self ..)
        have hl : (H.fr A).tg (tagOf slot j k) = none := by simp [Hand.fr, lookT_mem hH.dst hin]
        exact .inl ⟨hl, rfl, none, hv⟩
      | false =>
        simp only [hm, cond_false] at e ⊢
        refine .cons ?_ (leaf_sound hg hH hf e hs hc hr)
        show Cl _ _ _ _ _
        rw [Cl]; exact ⟨none, 0, by rw [hv]; rfl, Nat.le_refl _, .inl rfl⟩
    | clo f =>
      simp only [leafHand] at e
      simp only [leafs]
      exact .cons (RFn.step hf.step hr0) (leaf_sound hg hH hf e hs hc hr)
    | _ =>
      simp only [leafHand] at e
      simp only [leafs]
      exact .cons hr0 (leaf_sound hg hH hf e hs hc hr)

theorem leafs_len (own : List Nat) (slot j : Nat) : ∀ (k : Nat) (cs : List PC), (leafs own slot j k cs).length = cs.length
  | _, [] => rfl
  | k, c :: r => by cases c <;> simp [leafs, leafs_len own slot j (k + 1) r]

theorem not_pair {t : Ty} (h : t.isPair = false) : t.sz = 1 := by cases t <;> first | rfl | cases h

/-- One thing that is handed on. -/
theorem item_sound {A : Fr} {tm : Array Value} {w : World} {H : Hand} {F' : Nat → Prop} (hi : Inv X A σ tm w) (hH : H.OK) (hf : Fits X A w H F') {slot j : Nat} {k : Kd} {s : SV} {h h' : Hand} {x : k.den} {v : Value}
    (he : k.hand σ slot j s h = some h') (hs : h'.Sub H) (hp : k.pack σ s = some x) (hv : RS (X.F A) A w s v) : RS F' (H.fr A) w (k.unpack slot j x) v := by
  have elemc : ∀ {t : Ty} {y : t.den}, RC (X.F A) A w (.elem t y) v → RS F' (H.fr A) w (.one (.elem t y)) v := fun hc => At.step hf.step hc
  cases k with
  | v t own =>
    cases s with
    | one c =>
      cases hq : t.isPair with
      | true => simp [Kd.pack, hq] at hp
      | false =>
        simp only [Kd.pack, hq, cond_false] at hp
        have hl := leaf_sound hi.good hH hf (own := own) (slot := slot) (j := j) he hs (same_of hp) (.cons hv .nil)
        simp only [Kd.unpack, hq, cond_false]
        generalize leafs own slot j 0 (t.toPC x) = L at hl
        cases hl with
        | cons h0 ht => cases ht; exact h0
    | agg cs =>
      cases hq : t.isPair with
      | false => simp [Kd.pack, hq] at hp
      | true =>
        simp only [Kd.pack, hq, cond_true] at hp
        obtain ⟨vs, rfl, hvs⟩ := hv
        have hl := leaf_sound hi.good hH hf (own := own) (slot := slot) (j := j) he hs (same_of hp) hvs
        simp only [Kd.unpack, hq, cond_true]
        exact ⟨vs, rfl, hl⟩
  | n e t =>
    simp only [Kd.unpack]
    cases s with
    | agg cs => simp [Kd.pack] at hp
    | one c =>
      cases c with
      | nilS =>
        have : v = .slice none 0 0 := hv
        rw [this]; exact ⟨rfl, none, rfl⟩
      | slice e' t' xs g =>
        cases g with
        | nil => exact ⟨rfl, hv.2⟩
        | _ => simp [Kd.pack] at hp
      | _ => simp [Kd.pack] at hp
  | p t =>
    simp only [Kd.unpack]
    cases s with
    | agg cs => simp [Kd.pack] at hp
    | one c =>
      cases c with
      | elem t' y =>
        simp only [Kd.pack] at hp
        split at hp
        · rename_i ht
          subst ht
          cases hp
          exact elemc hv
        · cases hp
      | box d o =>
        simp only [Kd.pack] at hp
        simp only [Kd.hand] at he
        split at hp
        · rename_i tid cs hb
          simp only [hb, Option.some.injEq] at he
          subst he
          obtain ⟨b, hbx, hvb⟩ := hv
          obtain ⟨b', vs, hbx', hh, hcs⟩ := hi.box d tid cs hb
          rw [hbx] at hbx'
          cases hbx'
          have hnb : ¬ F' b := hf.pm d (hs.pm d (List.mem_cons_self ..)) b hbx
          refine ⟨⟨b, o, none⟩, (vs.toList.drop o).take t.sz, hvb, hnb, ?_, fun q u hq => ?_⟩
          · have hc' : RCs F' A w ((cs.drop o).take t.sz) ((vs.toList.drop o).take t.sz) := RCs.step hf.step (fun c _ => (Ext.refl A w).stays c) (forall2_take (forall2_drop hcs o) t.sz)
            refine RCs.ofPC hp (fun c hc => ?_) hc'
            cases c with
            | slice e1 t1 xs1 g => cases g with
              | own m => exact fun g1 l1 hg1 => ⟨hf.pl m (hs.pl m (List.mem_append_left _ (List.mem_flatMap.2 ⟨_, hc, List.mem_singleton.2 rfl⟩))) g1 l1 hg1, (hi.good.tgm m g1 l1 hg1).2⟩
              | _ => trivial
            | _ => trivial
          · rw [add_off, cell_of_block hh]
            simpa using drop_take_get _ _ _ _ _ hq
        · cases hp
      | _ => simp [Kd.pack] at hp
  | b t tid own =>
    simp only [Kd.unpack]
    cases s with
    | agg cs => simp [Kd.pack] at hp
    | one c =>
      cases c with
      | box d o =>
        cases o with
        | succ o => simp [Kd.pack] at hp
        | zero =>
          simp only [Kd.hand] at he
          split at he
          · have hin : (d, slot) ∈ H.rb := (leafHand_sub he |>.trans hs).rb _ (List.mem_cons_self ..)
            obtain ⟨b, hbx, hvb⟩ := hv
            exact ⟨b, by simp [Hand.fr, lookB_mem hH.b2 hin, hbx], hvb⟩
          · cases he
      | _ => simp [Kd.pack] at hp
  | f =>
    simp only [Kd.unpack]
    cases s with
    | agg cs => simp [Kd.pack] at hp
    | one c =>
      cases c with
      | fnv q => simp only [Kd.pack, Option.some.injEq] at hp; subst hp; exact RFn.step hf.step hv
      | clo g caps => simp only [Kd.pack, Option.some.injEq] at hp; subst hp; exact RFn.step hf.step hv
      | _ => simp [Kd.pack] at hp

end
end Go.Sv
