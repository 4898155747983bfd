/- The law that counts rows of two: what it tells. -/
import Derived.Test.YtmpdpboamnpnfaaL02
namespace Go.Proofs.Ytmpdpboamnpnfaa.Sv
open Go Go.Sv Go.Rd
set_option linter.unusedVariables false
set_option linter.unusedSimpArgs false

def chGo (f : Nat → Nat) : Nat → Nat
  | 0 => 1
  | n + 1 => f (n + 1) + chGo f n
def chS : Nat → Nat → Nat
  | 0 => fun _ => 1
  | m + 1 => chGo (chS m)
theorem chN_chS [Dfr] : ∀ m n, chN m n = chS m n
  | 0, n => by rw [chN]; rfl
  | m + 1, 0 => by rw [chN]; rfl
  | m + 1, n + 1 => by rw [chN, chN_chS m (n + 1), chN_chS (m + 1) n]; rfl
theorem chS_step [Dfr] : ∀ m, m < 7 → ∀ k, k < 7 → chS m k * (m + k + 1) / (k + 1) = chS m (k + 1) ∧ chS m k * (m + k + 1) < 1000000 := by decide

def nmAll : ByteArray := ⟨#[97, 98, 99, 100, 101, 102, 103, 104, 105, 106, 107, 108]⟩
def nm (k : Nat) : ByteArray := nmAll.extract k (k + 1)
theorem nm_bytes [Dfr] : ∀ k, k < 12 → (nm k).data.toList = [UInt8.ofNat (97 + k)] := by decide
theorem nm_inj [Dfr] {i j : Nat} (hi : i < 12) (hj : j < 12) (h : nm i = nm j) : i = j := by
  have h1 := nm_bytes i hi
  have h2 := nm_bytes j hj
  rw [h, h2] at h1
  have h3 : ∀ i, i < 12 → ∀ j, j < 12 → UInt8.ofNat (97 + j) = UInt8.ofNat (97 + i) → i = j := by decide
  exact h3 i hi j hj (by simpa using h1)

theorem law02_TraceCount_l0s [Dfr] (m : Nat) (hm : m ≤ 6) (n : Int) (b : List ByteArray) (z : Int) : ∀ (d k : Nat) (acc : List ByteArray), k + d = m → acc.length ≤ k → law02_TraceCount_l0 (m : Int) n nmAll acc b z (m : Int) (k : Int) = some (0, ((m : Int), n, nmAll, acc ++ (List.range' k d).map nm, b, z))
  | 0, k, acc, h, ha => by
    rw [law02_TraceCount_l0_eq, decide_eq_false (show ¬ (k : Int) < (m : Int) by omega)]
    simp
  | d + 1, k, acc, h, ha => by
    have hz : nmAll.size = 12 := rfl
    have wk := w_succ (show k < 9223372036854775807 by omega)
    rw [law02_TraceCount_l0_eq, decide_eq_true (show (k : Int) < (m : Int) by omega), wk, hz, cutOk_nat (show k ≤ k + 1 by omega) (show k + 1 ≤ 12 by omega), room (show (acc.length + 1) * 16 ≤ 140737488355328 by omega)]
    simp only [cond_true, Int.toNat_natCast]
    rw [law02_TraceCount_l0s m hm n b z d (k + 1) (acc ++ [nmAll.extract k (k + 1)]) (by omega) (by simp; omega)]
    simp [List.range'_succ, nm]

theorem law02_TraceCount_l2s [Dfr] (m n : Nat) (hm : m ≤ 6) (hn : n ≤ 6) (a : List ByteArray) : ∀ (d k : Nat) (acc : List ByteArray), k + d = n → acc.length ≤ k → law02_TraceCount_l2 (m : Int) nmAll a acc ((chS m k : Nat) : Int) (n : Int) (k : Int) = some (0, (a, acc ++ (List.range' (m + k) d).map nm, ((chS m n : Nat) : Int)))
  | 0, k, acc, h, ha => by
    rw [law02_TraceCount_l2_eq, decide_eq_false (show ¬ (k : Int) < (n : Int) by omega)]
    have : k = n := by omega
    subst this
    simp
  | d + 1, k, acc, h, ha => by
    have hz : nmAll.size = 12 := rfl
    have wk := w_succ (show k < 9223372036854775807 by omega)
    have w1 : w64 ((m : Int) + (k : Int)) = ((m + k : Nat) : Int) := by rw [w64_id (by omega) (by omega)]; omega
    have w2 := w_succ (show m + k < 9223372036854775807 by omega)
    obtain ⟨c1, c2⟩ := chS_step m (by omega) k (by omega)
    have w3 : w64 (((chS m k : Nat) : Int) * ((m + k + 1 : Nat) : Int)) = ((chS m k * (m + k + 1) : Nat) : Int) := by rw [← Int.natCast_mul, w64_id (by omega) (by omega)]
    have w4 : (((chS m k * (m + k + 1) : Nat) : Int)).tdiv ((k + 1 : Nat) : Int) = ((chS m (k + 1) : Nat) : Int) := by
      rw [← c1, Int.tdiv_eq_ediv_of_nonneg (by omega)]; rfl
    have c3 : chS m (k + 1) ≤ 1000000 := by
      rw [← c1]; exact Nat.le_trans (Nat.div_le_self _ _) (by omega)
    have w5 : w64 ((chS m (k + 1) : Nat) : Int) = ((chS m (k + 1) : Nat) : Int) := w64_id (by omega) (by omega)
    have e0 : (((k + 1 : Nat) : Int) == 0) = false := by simp; omega
    rw [law02_TraceCount_l2_eq, decide_eq_true (show (k : Int) < (n : Int) by omega), wk, w1, w2, hz, cutOk_nat (show m + k ≤ m + k + 1 by omega) (show m + k + 1 ≤ 12 by omega), room (show (acc.length + 1) * 16 ≤ 140737488355328 by omega), e0, w3, w4, w5]
    simp only [cond_true, cond_false, Int.toNat_natCast]
    rw [law02_TraceCount_l2s m n hm hn a d (k + 1) (acc ++ [nmAll.extract (m + k) (m + k + 1)]) (by omega) (by simp; omega)]
    simp [List.range'_succ, nm, Nat.add_assoc]

theorem law02_TraceCount_true [Dfr] [HasMix] (m n : Int) (hm : (Lit.int .i64 m).wf = true) (hn : (Lit.int .i64 n).wf = true) : law02_TraceCount m n = some true := by
  rw [law02_TraceCount_eq]
  by_cases h1 : m < 0
  · simp only [decide_eq_true h1, cond_true, law02_alive_s, Option.bind_some]
  by_cases h2 : n < 0
  · simp only [decide_eq_false h1, decide_eq_true h2, cond_true, cond_false, law02_alive_s, Option.bind_some]
  by_cases h3 : m > 6
  · simp only [decide_eq_false h1, decide_eq_false h2, decide_eq_true h3, cond_true, cond_false, law02_alive_s, Option.bind_some]
  by_cases h4 : n > 6
  · simp only [decide_eq_false h1, decide_eq_false h2, decide_eq_false h3, decide_eq_true h4, cond_true, cond_false, law02_alive_s, Option.bind_some]
  by_cases h5 : w64 (m + n) > 8
  · simp only [decide_eq_false h1, decide_eq_false h2, decide_eq_false h3, decide_eq_false h4, decide_eq_true h5, cond_true, cond_false, law02_alive_s, Option.bind_some]
  obtain ⟨m, rfl⟩ : ∃ k : Nat, m = k := ⟨m.toNat, by omega⟩
  obtain ⟨n, rfl⟩ : ∃ k : Nat, n = k := ⟨n.toNat, by omega⟩
  have hmn : m + n ≤ 8 := by rw [w64_id (by omega) (by omega)] at h5; omega
  have e0 := law02_TraceCount_l0s m (by omega) n [] 1 m 0 [] (by omega) (by simp)
  have c0 : ((chS m 0 : Nat) : Int) = 1 := by cases m <;> rfl
  have e2 := law02_TraceCount_l2s m n (by omega) (by omega) ((List.range' 0 m).map nm) n 0 [] (by omega) (by simp)
  rw [c0] at e2
  rw [Int.natCast_zero, List.nil_append] at e0 e2
  have hnames : (⟨#[97, 98, 99, 100, 101, 102, 103, 104, 105, 106, 107, 108]⟩ : ByteArray) = nmAll := rfl
  have hmix := trace_Mix_s ((List.range' 0 m).map nm) ((List.range' (m + 0) n).map nm) (by simp; omega)
  have hlen : (mixS ((List.range' 0 m).map nm) ((List.range' (m + 0) n).map nm)).length = chS m n := by
    unfold mixS
    rw [length_canon_nodup ordA (nodup_mixes fun x hx hy => ?_), length_mixes, chN_chS]
    · simp
    · obtain ⟨i, hi, rfl⟩ := List.mem_map.1 hx
      obtain ⟨j, hj, e⟩ := List.mem_map.1 hy
      rw [List.mem_range'_1] at hi hj
      have := nm_inj (by omega) (by omega) e
      omega
  simp only [decide_eq_false h1, decide_eq_false h2, decide_eq_false h3, decide_eq_false h4, decide_eq_false h5, cond_false, hnames, e0, e2, Option.bind_some, law02_alive_s, cond_true, hmix, hlen, beq_self_eq_true]

end Go.Proofs.Ytmpdpboamnpnfaa.Sv
