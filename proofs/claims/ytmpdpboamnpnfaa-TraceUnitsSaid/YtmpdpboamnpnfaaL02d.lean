/- The laws of one trace behind another one, and of what changes nothing. -/
import Derived.Test.YtmpdpboamnpnfaaL02
namespace Go.Proofs.Ytmpdpboamnpnfaa.Sv
open Go Go.Sv Go.Rd
set_option linter.unusedVariables false
set_option linter.unusedSimpArgs false

theorem thenT_assoc [Dfr] (p q r : Tc) : thenT (thenT p q) r = thenT p (thenT q r) := by
  obtain ⟨p1, p2⟩ := p
  obtain ⟨q1, q2⟩ := q
  unfold thenT
  by_cases h : p2 = 1
  · subst h
    simp only [if_true]
    by_cases h2 : q2 = 1
    · subst h2; simp
    · simp [h2]
  · simp [h]

theorem thenT_len [Dfr] (p q : Tc) : (thenT p q).1.length ≤ p.1.length + q.1.length := by
  unfold thenT
  split
  · simp
  · simp

theorem thenT_mem [Dfr] {p q : Tc} {x : ByteArray} (h : x ∈ (thenT p q).1) : x ∈ p.1 ∨ x ∈ q.1 := by
  unfold thenT at h
  split at h
  · exact List.mem_append.1 h
  · exact .inl h

theorem cmpT_self [Dfr] (x : Tc) : cmpT x x = .eq := (ordT.eq x x).2 rfl

theorem law02_TraceThen_true [Dfr] [HasMix] (a b c : Tc) (ha : wfT a) (hb : wfT b) (hc : wfT c) : law02_TraceThen a b c = some true := by
  have la := ha.len
  have lb := hb.len
  have lc := hc.len
  rw [law02_TraceThen_eq, law02_few_s [a, b, c] (by simp) (fun t ht => by simp at ht; rcases ht with rfl | rfl | rfl <;> assumption), Option.bind_some]
  simp only [law02_alive_s, Option.bind_some, cond_true]
  by_cases h : [a, b, c].length ≤ 100 ∧ sumA [a, b, c] ≤ 1000
  · have hs : a.1.length + b.1.length + c.1.length ≤ 1000 := by have := h.2; simp only [sumA] at this; omega
    have l1 := thenT_len a b
    have l2 := thenT_len b c
    have l3 := thenT_len a (thenT b c)
    have tail : ((trace_Then a b).bind fun r13 => (trace_Then r13 c).bind fun r14 => (trace_Then b c).bind fun r15 => (trace_Then a r15).bind fun r16 => (ref02_Then a b).bind fun r18 => (ref02_Compare (thenT a b) r18).bind fun r19 => bif (r19 == 0) then ((trace_Compare r14 r16).bind fun r20 => some (r20 == 0)) else (some false)) = some true := by
      rw [trace_Then_s a b (by omega), Option.bind_some, trace_Then_s (thenT a b) c (by omega), Option.bind_some, trace_Then_s b c (by omega), Option.bind_some, trace_Then_s a (thenT b c) (by omega), Option.bind_some, ref02_Then_s a b (by omega), Option.bind_some,
        ref02_Compare_s (thenT a b) (thenT a b) (by omega) (by omega), Option.bind_some, cmpT_self, thenT_assoc, trace_Compare_s _ _ (by omega), Option.bind_some, cmpT_self]
      rfl
    rw [decide_eq_true h]
    simp only [Bool.not_true, cond_false]
    rw [trace_Then_s a b (by omega)] at tail ⊢
    simp only [Option.bind_some] at tail ⊢
    by_cases hl : 0 < (thenT a b).1.length
    · have hi : idxOk 0 (thenT a b).1.length = true := idxOk_zero hl
      have hx : ((ix (thenT a b).1 0).size : Nat) ≤ 140737488351232 := by
        have e : ix (thenT a b).1 0 = (thenT a b).1[0] := ix_nat hl
        rw [e]
        rcases thenT_mem (List.getElem_mem hl) with hm | hm
        · exact ha.1.2 _ hm
        · exact hb.1.2 _ hm
      have hz : (⟨#[120]⟩ : ByteArray).size = 1 := rfl
      simp only [decide_eq_true (show (((thenT a b).1.length : Nat) : Int) > 0 by omega), cond_true, hi, hz, decide_eq_true (show (ix (thenT a b).1 0).size + 1 ≤ 9223372036854775807 by omega)]
      exact tail
    · simp only [decide_eq_false (show ¬ (((thenT a b).1.length : Nat) : Int) > 0 by omega), cond_false]
      exact tail
  · rw [decide_eq_false h]; rfl

theorem mixS_nil [Dfr] (p : List ByteArray) : mixS p [] = [p] := srt_ext ordA (srt_canon ordA _) (List.pairwise_singleton ..) fun x => by
  rw [mem_mixS, List.mem_singleton]
  exact ⟨fun h => h.nil_r, fun h => h ▸ Mx.left p⟩
theorem bs_one [Dfr] {e : Int} (h1 : ¬ e < 1) (h3 : ¬ e > 3) : bs e 1 = e := by
  have : e = 1 ∨ e = 2 ∨ e = 3 := by omega
  rcases this with rfl | rfl | rfl <;> decide
theorem thenT_one [Dfr] (x : Tc) : thenT ([], 1) x = x := by unfold thenT; simp
theorem thenT_end [Dfr] (x : Tc) : thenT x ([], 1) = x := by
  obtain ⟨x1, x2⟩ := x
  unfold thenT
  by_cases h : x2 = 1
  · subst h; simp
  · simp [h]

theorem law02_TraceUnits_true [Dfr] [HasMix] (t u : Tc) (ht : wfT t) (hu : wfT u) : law02_TraceUnits t u = some true := by
  have lt := ht.len
  have lu := hu.len
  rw [law02_TraceUnits_eq, law02_few_s [t, u] (by simp) (fun x hx => by simp at hx; rcases hx with rfl | rfl <;> assumption), Option.bind_some]
  simp only [law02_alive_s, Option.bind_some, cond_true]
  by_cases h : [t, u].length ≤ 100 ∧ sumA [t, u] ≤ 1000
  · have hs : t.1.length + u.1.length ≤ 1000 := by have := h.2; simp only [sumA] at this; omega
    rw [decide_eq_true h]
    simp only [Bool.not_true, cond_false]
    by_cases h9 : t.1.length > 9
    · rw [decide_eq_true (show (t.1.length : Int) > 9 by omega)]; rfl
    · have e0 : ([] : List ByteArray).length = 0 := rfl
      have hp : parE (bs t.2 1) t.1 [] = [(t.1, bs t.2 1)] := by unfold parE; rw [mixS_nil]; rfl
      have hc : trace_Compare t t = some 0 := by rw [trace_Compare_s t t (by omega), cmpT_self]; rfl
      have tl : (trace_Then ([], 1) t) = some t := by rw [trace_Then_s ([], 1) t (by show 0 + _ ≤ _; omega), thenT_one]
      have tr : (trace_Then t ([], 1)) = some t := by rw [trace_Then_s t ([], 1) (by show _ + 0 ≤ _; omega), thenT_end]
      have tu : (bif t.2 == 1 then some true else (trace_Then t u).bind fun r10 => (trace_Compare r10 t).bind fun r11 => some (r11 == 0)) = some true := by
        by_cases h1 : t.2 = 1
        · rw [h1]; rfl
        · rw [show (t.2 == 1) = false by simp [h1], trace_Then_s t u (by omega), show thenT t u = t by unfold thenT; rw [if_neg h1]]
          simp only [cond_false, Option.bind_some, hc]
          rfl
      have z0 : ((0 : Int) == 0) = true := rfl
      rw [decide_eq_false (show ¬ (t.1.length : Int) > 9 by omega), trace_Par_s t ([], 1) (by show _ + 0 ≤ _; omega)]
      simp only [cond_false, Option.bind_some, tl, tr, hc, z0, cond_true, tu, hp]
      rw [show (([(t.1, bs t.2 1)] : List Tc).length : Int) = 1 from rfl, show ((1 : Int) == 1) = true from rfl]
      simp only [cond_true]
      by_cases k1 : t.2 < 1
      · rw [decide_eq_true k1]; rfl
      · by_cases k3 : t.2 > 3
        · rw [decide_eq_false k1, decide_eq_true k3]; rfl
        · have e : (t.1, bs t.2 1) = t := by rw [bs_one k1 k3]
          rw [decide_eq_false k1, decide_eq_false k3, e]
          simp only [cond_false, ix_zero, hc, Option.bind_some, z0, cond_true, tu]
          rfl
  · rw [decide_eq_false h]; rfl

end Go.Proofs.Ytmpdpboamnpnfaa.Sv
