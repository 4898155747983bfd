/- Words for the pure laws: what is told from some number of rounds on. -/
import Derived.Test.YtnooginekcnflaaEvFd
namespace Go.Sv
open Go
set_option linter.unusedVariables false
set_option linter.unusedSimpArgs false

/-- From some number of rounds on, told as a. -/
def Evt {α : Type} (p : Nat → Option α) (a : α) : Prop := ∃ K, ∀ k, K ≤ k → p k = some a
def EvL {α : Type} (p : Nat → Nat → Option α) (a : α) : Prop := ∃ K, ∀ k n, K ≤ k → K ≤ n → p k n = some a

theorem Evt.ex {α : Type} {p : Nat → Option α} {a : α} (h : Evt p a) : ∃ k, p k = some a := let ⟨K, hK⟩ := h; ⟨K, hK K (Nat.le_refl K)⟩
theorem Evt.ret {α : Type} (a : α) : Evt (fun _ => some a) a := ⟨0, fun _ _ => rfl⟩
theorem Evt.succ {α : Type} {p : Nat → Option α} {a : α} (h : Evt (fun k => p (k + 1)) a) : Evt p a := by
  obtain ⟨K, hK⟩ := h
  refine ⟨K + 1, fun k hk => ?_⟩
  obtain ⟨k, rfl⟩ : ∃ j, k = j + 1 := ⟨k - 1, by omega⟩
  exact hK k (by omega)
theorem Evt.bind {α β : Type} {p : Nat → Option α} {q : α → Nat → Option β} {a : α} {b : β} (h : Evt p a) (k : Evt (q a) b) : Evt (fun k => (p k).bind fun x => q x k) b := by
  obtain ⟨K, hK⟩ := h
  obtain ⟨L, hL⟩ := k
  exact ⟨max K L, fun k hk => by simp only [hK k (by omega), Option.bind_some]; exact hL k (by omega)⟩
theorem Evt.congr {α : Type} {p q : Nat → Option α} {a : α} (h : Evt p a) (e : ∀ k, q k = p k) : Evt q a := by
  obtain ⟨K, hK⟩ := h
  exact ⟨K, fun k hk => (e k).trans (hK k hk)⟩
theorem EvL.diag {α : Type} {p : Nat → Nat → Option α} {a : α} (h : EvL p a) : Evt (fun k => p k k) a := by
  obtain ⟨K, hK⟩ := h
  exact ⟨K, fun k hk => hK k k hk hk⟩
theorem EvL.ret {α : Type} (a : α) : EvL (fun _ _ => some a) a := ⟨0, fun _ _ _ _ => rfl⟩
theorem EvL.succ {α : Type} {p : Nat → Nat → Option α} {a : α} (h : EvL (fun k n => p k (n + 1)) a) : EvL p a := by
  obtain ⟨K, hK⟩ := h
  refine ⟨K + 1, fun k n hk hn => ?_⟩
  obtain ⟨n, rfl⟩ : ∃ j, n = j + 1 := ⟨n - 1, by omega⟩
  exact hK k n (by omega) (by omega)
theorem EvL.bind {α β : Type} {p : Nat → Option α} {q : α → Nat → Nat → Option β} {a : α} {b : β} (h : Evt p a) (k : EvL (q a) b) : EvL (fun k n => (p k).bind fun x => q x k n) b := by
  obtain ⟨K, hK⟩ := h
  obtain ⟨L, hL⟩ := k
  exact ⟨max K L, fun k n hk hn => by simp only [hK k (by omega), Option.bind_some]; exact hL k n (by omega) (by omega)⟩
theorem Evt.of_run {E : Env} {f K : Nat} {x : Tup (E.sig f).args} {r : Tup (E.sig f).res} (h : run E K f x = some r) : Evt (fun k => run E k f x) r := ⟨K, fun k hk => run_mono h hk⟩

/-! ### whole numbers -/
theorem wrap_id {n : Int} (h0 : 0 ≤ n) (h1 : n ≤ 9223372036854775807) : IntKind.wrap .i64 n = n := by
  have e1 : n % 18446744073709551616 = n := by omega
  show (if (true && decide (n % 18446744073709551616 ≥ 9223372036854775808)) = true then _ else _) = _
  rw [if_neg (by simp; omega)]
  exact e1
theorem wrap_small {n : Int} (h0 : -9223372036854775808 ≤ n) (h1 : n ≤ 9223372036854775807) : IntKind.wrap .i64 n = n := by
  by_cases h : 0 ≤ n
  · exact wrap_id h h1
  · have e1 : n % 18446744073709551616 = n + 18446744073709551616 := by omega
    show (if (true && decide (n % 18446744073709551616 ≥ 9223372036854775808)) = true then n % 18446744073709551616 - 18446744073709551616 else _) = _
    rw [if_pos (by simp; omega), e1]; omega
theorem wrap_nat {n : Nat} (h : n ≤ 9223372036854775807) : IntKind.wrap .i64 (n : Int) = (n : Int) := wrap_id (by omega) (by omega)
theorem wrap_succ {n : Nat} (h : n < 9223372036854775807) : IntKind.wrap .i64 ((n : Int) + 1) = ((n + 1 : Nat) : Int) := by rw [wrap_id (by omega) (by omega)]; rfl

/-! ### rows -/
theorem idxOk_nat {i n : Nat} (h : i < n) : idxOk (i : Int) n = true := by
  unfold idxOk
  simp only [Bool.and_eq_true, decide_eq_true_eq]; omega
theorem idxOk_zero {n : Nat} (h : 0 < n) : idxOk 0 n = true := by
  unfold idxOk
  simp only [Bool.and_eq_true, decide_eq_true_eq]; omega
theorem cutOk_nat {a b n : Nat} (h1 : a ≤ b) (h2 : b ≤ n) : cutOk (a : Int) (b : Int) n = true := by
  unfold cutOk
  simp only [Bool.and_eq_true, decide_eq_true_eq]; omega
theorem cutOk_zero {b n : Nat} (h2 : b ≤ n) : cutOk 0 (b : Int) n = true := by
  unfold cutOk
  simp only [Bool.and_eq_true, decide_eq_true_eq]; omega
theorem rd_nat {u : Ty} {xs : List u.den} {i : Nat} (h : i < xs.length) : rd u xs (i : Int) = xs[i] := by
  unfold rd
  rw [Int.toNat_natCast, List.getD_eq_getElem?_getD, List.getElem?_eq_getElem h]; rfl
theorem cut_nat {α : Type} (xs : List α) (a b : Nat) : cut xs (a : Int) (b : Int) = (xs.take b).drop a := by
  unfold cut
  rw [Int.toNat_natCast, Int.toNat_natCast]
theorem cut_zero {α : Type} (xs : List α) (b : Nat) : cut xs 0 (b : Int) = xs.take b := by
  unfold cut
  rw [Int.toNat_natCast]; rfl
theorem cut_end {α : Type} (xs : List α) (a : Nat) : cut xs (a : Int) (xs.length : Int) = xs.drop a := by
  rw [cut_nat, List.take_length]
theorem roomOk_of {n b : Nat} (h : n * b ≤ 140737488355328) : roomOk n b = true := by simpa [roomOk] using h

end Go.Sv
