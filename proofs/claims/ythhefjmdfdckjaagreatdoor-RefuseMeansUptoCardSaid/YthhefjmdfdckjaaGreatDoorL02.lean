/- The laws of traces: what they tell. -/
import Derived.Test.YthhefjmdfdckjaaGreatDoorW02
namespace Go.Proofs.YthhefjmdfdckjaaGreatDoor.Sv
open Go Go.Sv Go.Rd
set_option linter.unusedVariables false
set_option linter.unusedSimpArgs false

/-- What the program's own traces keep. -/
def wfT (t : Tc) : Prop := (t.1.length ≤ reachBytes ∧ ∀ x ∈ t.1, x.size ≤ reachBytes) ∧ (Lit.int .i64 t.2).wf = true

def wfTs (l : List Tc) : Prop := l.length ≤ reachBytes ∧ ∀ x ∈ l, wfT x

theorem wfT.len [Dfr] {t : Tc} (h : wfT t) : t.1.length ≤ 140737488351232 := h.1.1

theorem wfTs.short [Dfr] {l : List Tc} (h : wfTs l) : shortT l := fun x hx => by have := (h.2 x hx).len; omega

def sumA : List Tc → Nat
  | [] => 0
  | t :: r => t.1.length + sumA r

theorem sumA_mem [Dfr] : ∀ {l : List Tc} {t : Tc}, t ∈ l → t.1.length ≤ sumA l
  | x :: r, t, h => by
    rcases List.mem_cons.1 h with rfl | h
    · simp [sumA]
    · have := sumA_mem h; simp only [sumA]; omega

theorem sumA_le [Dfr] : ∀ {l : List Tc}, (∀ t ∈ l, t.1.length ≤ 140737488351232) → sumA l ≤ l.length * 140737488351232
  | [], _ => by simp [sumA]
  | x :: r, h => by
    have h1 := h x (List.mem_cons_self ..)
    have h2 := sumA_le fun t ht => h t (List.mem_cons_of_mem _ ht)
    simp only [sumA, List.length_cons]; omega

theorem law02_Olds_l0s [Dfr] (xs : List Tc) (hx : xs.length ≤ 1000000000) : ∀ (r : List Tc) (i : Nat) (acc : List Tc), xs.drop i = r → acc.length ≤ i → law02_Olds_l0 acc xs (xs.length : Int) (i : Int) = some (0, acc ++ r)
  | [], i, acc, h, ha => by
    obtain ⟨h1, h2⟩ := drop_nil h
    rw [law02_Olds_l0_eq]
    simp only [h2, cond_false, List.append_nil]
  | x :: r, i, acc, h, ha => by
    obtain ⟨h1, h2, h3, h4, h5, h6⟩ := drop_cons h
    rw [law02_Olds_l0_eq]
    simp only [h2, h3, h4, cond_true, room (show (acc.length + 1) * 32 ≤ 140737488355328 by omega), w_succ (show i < 9223372036854775807 by omega), law02_Olds_l0s xs hx r (i + 1) (acc ++ [x]) h5 (by simp; omega), List.append_assoc, List.singleton_append]

theorem law02_Olds_s [Dfr] (xs : List Tc) (hx : xs.length ≤ 1000000000) : law02_Olds xs = some xs := by
  have e := law02_Olds_l0s xs hx xs 0 [] rfl (by simp)
  rw [Int.natCast_zero] at e
  rw [law02_Olds_eq, e]; rfl

/-! ### texts -/
def spB : List UInt8 := [32]
/-- The bytes of a trace's actions, each with a blank behind it. -/
def textB : List ByteArray → List UInt8
  | [] => []
  | x :: r => x.data.toList ++ spB ++ textB r

def sizeB : List ByteArray → Nat
  | [] => 0
  | x :: r => x.size + 1 + sizeB r

theorem append_bytes [Dfr] (a b : ByteArray) : (a ++ b).data.toList = a.data.toList ++ b.data.toList := by
  rw [ByteArray.data_append, Array.toList_append]

theorem append_size [Dfr] (a b : ByteArray) : (a ++ b).size = a.size + b.size := ByteArray.size_append

theorem bytes_inj [Dfr] {a b : ByteArray} (h : a.data.toList = b.data.toList) : a = b := by
  obtain ⟨⟨a⟩⟩ := a
  obtain ⟨⟨b⟩⟩ := b
  have h' : a = b := h
  rw [h']

/-! ### the witness -/
theorem mixes_a [Dfr] : mixes [] [⟨#[97]⟩] [⟨#[98]⟩, ⟨#[99]⟩] = [[⟨#[97]⟩, ⟨#[98]⟩, ⟨#[99]⟩], [⟨#[98]⟩, ⟨#[97]⟩, ⟨#[99]⟩], [⟨#[98]⟩, ⟨#[99]⟩, ⟨#[97]⟩]] := by
  simp [mixes]

theorem mixS_a [Dfr] : mixS [⟨#[97]⟩] [⟨#[98]⟩, ⟨#[99]⟩] = [[⟨#[97]⟩, ⟨#[98]⟩, ⟨#[99]⟩], [⟨#[98]⟩, ⟨#[97]⟩, ⟨#[99]⟩], [⟨#[98]⟩, ⟨#[99]⟩, ⟨#[97]⟩]] := by
  unfold mixS
  rw [mixes_a]
  refine canon_of_srt ordA ?_
  simp only [srt_cons, List.mem_cons, List.not_mem_nil, or_false, forall_eq_or_imp, forall_eq, false_imp_iff, implies_true, Srt.nil, and_true]
  simp only [cmpL, cmpB, ByteArray.toList_eq]
  decide

theorem sizeB_le [Dfr] : ∀ {l : List ByteArray}, (∀ x ∈ l, x.size ≤ 140737488351232) → sizeB l ≤ l.length * 140737488351233
  | [], _ => by simp [sizeB]
  | x :: r, h => by
    have h1 := h x (List.mem_cons_self ..)
    have h2 := sizeB_le fun t ht => h t (List.mem_cons_of_mem _ ht)
    simp only [sizeB, List.length_cons]; omega

end Go.Proofs.YthhefjmdfdckjaaGreatDoor.Sv
