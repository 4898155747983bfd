/-
  DERIVED: THE SHELF's CONTRACTS AT THIS DUMP, IN PLAIN WORDS (tools/lay-plain.mjs out of 'TrydShelf.lean', which tools/lay-shelf.mjs wrote): THE SAME DECLARATIONS UNDER THE SAME NAMES: 'import', 'namespace', 'open', 'def', 'theorem' AND NOTHING ELSE: no command of the shelf's: FOR A HAND-IN. Each laying: the table of numbers ('.._ren') and one theorem, a field a fact of the dump's own or the kernel's comparison; each contract: ONE APPLICATION.
-/
import Derived.Test.YtjogkjgpbeenfaaDoorProg
import Derived.Ground.NamesProg
import Derived.Shelf.Strings.SlTrimAscii
namespace Go.Proofs
open Go.Shelf
def Tryd.lays160_ren : Go.Shelf.Ren := ⟨fun | 160 => 87 | 232 => 90 | 231 => 89 | 227 => 91 | 234 => 93 | 233 => 92 | 236 => 95 | 235 => 94 | 228 => 97 | 271 => 100 | 151 => 99 | 197 => 98 | 120 => 103 | 152 => 102 | 260 => 101 | 137 => 104 | 119 => 105 | 224 => 106 | 225 => 107 | 217 => 108 | 266 => 109 | n => n, fun | 9 => 9 | 4 => 4 | 3 => 3 | 5 => 5 | 117 => 114 | 116 => 113 | 0 => 0 | 124 => 117 | 21 => 21 | 105 => 120 | 46 => 125 | 119 => 124 | 139 => 128 | 138 => 127 | n => n, fun | 3 => 1 | 4 => 2 | n => n⟩
theorem Tryd.lays160 : Go.Proofs.Lays.n160 Tryd.prog Tryd.lays160_ren := {
  mixed := by kernel_rfl
  f119 := Tryd.func105.trans (congrArg some (by kernel_rfl))
  f120 := Tryd.func103.trans (congrArg some (by kernel_rfl))
  f137 := Tryd.func104.trans (congrArg some (by kernel_rfl))
  f151 := Tryd.func99.trans (congrArg some (by kernel_rfl))
  f152 := Tryd.func102.trans (congrArg some (by kernel_rfl))
  f160 := Tryd.func87.trans (congrArg some (by kernel_rfl))
  f197 := Tryd.func98.trans (congrArg some (by kernel_rfl))
  f217 := Tryd.func108.trans (congrArg some (by kernel_rfl))
  f224 := Tryd.func106.trans (congrArg some (by kernel_rfl))
  f225 := Tryd.func107.trans (congrArg some (by kernel_rfl))
  f227 := Tryd.func91.trans (congrArg some (by kernel_rfl))
  f228 := Tryd.func97.trans (congrArg some (by kernel_rfl))
  f231 := Tryd.func89.trans (congrArg some (by kernel_rfl))
  f232 := Tryd.func90.trans (congrArg some (by kernel_rfl))
  f233 := Tryd.func92.trans (congrArg some (by kernel_rfl))
  f234 := Tryd.func93.trans (congrArg some (by kernel_rfl))
  f235 := Tryd.func94.trans (congrArg some (by kernel_rfl))
  f236 := Tryd.func95.trans (congrArg some (by kernel_rfl))
  f260 := Tryd.func101.trans (congrArg some (by kernel_rfl))
  f266 := Tryd.func109.trans (congrArg some (by kernel_rfl))
  f271 := Tryd.func100.trans (congrArg some (by kernel_rfl))
  t0 := Tryd.underlying0
  a0 := Tryd.isAgg0
  z0 := Tryd.sizeOf0
  v0 := Tryd.zeroValue0
  t3 := Tryd.underlying3
  a3 := Tryd.isAgg3
  z3 := Tryd.sizeOf3
  v3 := Tryd.zeroValue3
  t4 := Tryd.underlying4
  a4 := Tryd.isAgg4
  z4 := Tryd.sizeOf4
  v4 := Tryd.zeroValue4
  t5 := Tryd.underlying5
  a5 := Tryd.isAgg5
  z5 := Tryd.sizeOf5
  v5 := Tryd.zeroValue5
  t9 := Tryd.underlying9
  a9 := Tryd.isAgg9
  z9 := Tryd.sizeOf9
  v9 := Tryd.zeroValue9
  t21 := Tryd.underlying21
  a21 := Tryd.isAgg21
  z21 := Tryd.sizeOf21
  v21 := Tryd.zeroValue21
  t46 := Tryd.underlying125
  a46 := Tryd.isAgg125
  z46 := Tryd.sizeOf125
  v46 := Tryd.zeroValue125
  t105 := Tryd.underlying120
  a105 := Tryd.isAgg120
  z105 := Tryd.sizeOf120
  v105 := Tryd.zeroValue120
  t116 := Tryd.underlying113
  a116 := Tryd.isAgg113
  z116 := Tryd.sizeOf113
  t117 := Tryd.underlying114
  a117 := Tryd.isAgg114
  z117 := Tryd.sizeOf114
  v117 := Tryd.zeroValue114
  t119 := Tryd.underlying124
  a119 := Tryd.isAgg124
  z119 := Tryd.sizeOf124
  t124 := Tryd.underlying117
  a124 := Tryd.isAgg117
  z124 := Tryd.sizeOf117
  v124 := Tryd.zeroValue117
  t138 := Tryd.underlying127
  a138 := Tryd.isAgg127
  z138 := Tryd.sizeOf127
  v138 := Tryd.zeroValue127
  t139 := Tryd.underlying128
  a139 := Tryd.isAgg128
  z139 := Tryd.sizeOf128
  v139 := Tryd.zeroValue128
  g3 := by kernel_rfl
  g4 := by kernel_rfl }
end Go.Proofs
namespace Go.Sv
open Go Go.Shelf Go.Proofs Go.RowKit
/-- strings.Trim, with what it draws. -/
theorem trim_drawn {P : Program} {ρ : Ren} (L : Lays.n160 P ρ) (h116 : (P.info? (ρ.t 116)).map (fun i => (i.zero, i.size)) = some (some (.agg (Array.replicate 256 (.bool false))), 256)) (s cutset : ByteArray) (w : World) (hs : s.size ≤ 9223372036854775807) (hcs : cutset.size < 4294967281)
    (hascii : ∀ (j : Nat) b, cutset.data.toList[j]? = some b → b.toNat < 128) :
    Calls P (ρ.f 160) #[.string s, .string cutset] w fun e w' => e = .returned (.string ⟨(Lib.trimS s.data.toList cutset.data.toList).toArray⟩) ∧ Below w.heap.size w w' ∧ w.drawn ≤ w'.drawn := by
  have hn : ∀ t : ByteArray, t.size = 0 → t.data.toList = [] := fun t ht => List.eq_nil_of_length_eq_zero (by rw [← Lib.size_eq]; exact ht)
  by_cases hs0 : s.size = 0
  · refine (Any.strings_Trim_empty L s cutset w (.inl hs0)).mono fun e w' ⟨h1, h2⟩ => ⟨?_, h2 ▸ Below.refl _ _, h2 ▸ Nat.le_refl _⟩
    rw [h1, hn s hs0]
    congr 2
    rw [← Lib.mk_data s, hn s hs0]
    rfl
  by_cases hc0 : cutset.size = 0
  · refine (Any.strings_Trim_empty L s cutset w (.inr hc0)).mono fun e w' ⟨h1, h2⟩ => ⟨?_, h2 ▸ Below.refl _ _, h2 ▸ Nat.le_refl _⟩
    rw [h1, hn cutset hc0, show Lib.trimS s.data.toList [] = s.data.toList from by unfold Lib.trimS; rw [Lib.trimRightS_none, Lib.trimLeftS_none], Lib.mk_data]
  by_cases hc1 : cutset.size = 1
  · obtain ⟨c, hc⟩ : ∃ c, cutset.data.toList = [c] := by
      have hlen : cutset.data.toList.length = 1 := by rw [← Lib.size_eq]; exact hc1
      match hh : cutset.data.toList, hlen with
      | [c], _ => exact ⟨c, rfl⟩
    have hcut : cutset = ⟨#[c]⟩ := by rw [← Lib.mk_data cutset, hc]
    have h128 : c.toNat < 128 := hascii 0 c (by rw [hc]; rfl)
    rw [hc, Lib.trimS_one, hcut]
    refine (Any.strings_Trim_one L s c h128 w hs).mono fun e w' ⟨h1, h2⟩ => ⟨h1, ?_⟩
    rcases h2 with rfl | rfl
    · exact ⟨Below.refl _ _, Nat.le_refl _⟩
    · exact ⟨(Below.refl _ _).drew, Nat.le_succ _⟩
  · refine (Any.strings_Trim_set L (zero_of_info h116).1 (zero_of_info h116).2 s cutset w (by omega) (by omega) hs hcs hascii).mono fun e w' ⟨h1, h2⟩ => ⟨h1, ?_⟩
    obtain ⟨q, rfl⟩ := h2
    exact ⟨(((Below.refl _ _).alloc (Nat.le_refl _) _).alloc (by simp) _).trans ⟨rfl, rfl, rfl, Nat.le_refl _, fun _ _ => rfl⟩, Nat.le_add_right _ _⟩
end Go.Sv
