/-
  NARROWER THAN 'FOR EVERY INPUT', by the rows' own cells (each row's printed sentence says how): DoomActive: laid · DoomFree: laid · DoomMeans: laid.
  DERIVED. THE GIVEN ROWS OF THIS SEAT. 3 by the template 'for every input the law returns true; each argument reads behind the call as it read before'; 0 by the template 'total and deterministic' (their statements: YtdbabacjmkfkgaaGreatDoorTotals.lean).
  GIVEN WITH THE SEED: the statements are not yours to turn. If you find one false, say at which input.
  Laid BY PROGRAM, IN A SANDBOX (cutbox-rows.mjs): the forced cells as the released guide's own fill.sh prints them over the translation ab26262d90a73e40… (all of the seat's roots in one cut). By AI agents, Wed Nov 11 2026. No macro, syntax, notation, axiom, sorry.
-/
import Derived.Test.YtdbabacjmkfkgaaGreatDoorChecked
import GoSem.PinnedTables
import GoSem.Claim
import GoSem.ClaimJoined
import GoSem.ClaimMapViews
import Derived.JoinedTies
import Derived.KernelRfl
namespace Go.Proofs.YtdbabacjmkfkgaaGreatDoor
/- THE CELL 'sum', in the pinned program and in every row, IS THE sha256 OF THE DUMP (.gsa) THAT YtdbabacjmkfkgaaGreatDoorProg.lean LOADS. Nothing in Lean hashes anything: it is a label: what it is worth is what the hold of that sum in a sandbox is worth. -/
noncomputable def Tryz.pinned : Pinned := { name := "ytdbabacjmkfkgaagreatdoor", sum := "ab26262d90a73e4077a89094b06fd1803e84fa835899a6642380342360a50ee8", checked := Tryz.checked }
namespace Rows
def none {H : Type} : Left H := { results := [], args := [] }

/- WHAT THE LISTED PACKAGE-LEVEL VARIABLES READ AS WHEN THE CALL BEGINS. Each datum BY PROGRAM (the guide's laid-datum.mjs) off the statement by which the dump's own 'gosem.cut.vars' lays the variable. In a bare row this is a premise. The card (YtdbabacjmkfkgaaGreatDoorCards.lean) ties it to the program's text. -/
def laid_unicode_utf8_acceptRanges {H : Type} : DataW H := .agg [.agg [.lit (.int .u8 128), .lit (.int .u8 191)], .agg [.lit (.int .u8 160), .lit (.int .u8 191)], .agg [.lit (.int .u8 128), .lit (.int .u8 159)], .agg [.lit (.int .u8 144), .lit (.int .u8 191)], .agg [.lit (.int .u8 128), .lit (.int .u8 143)], .agg [.lit (.int .u8 0), .lit (.int .u8 0)], .agg [.lit (.int .u8 0), .lit (.int .u8 0)], .agg [.lit (.int .u8 0), .lit (.int .u8 0)], .agg [.lit (.int .u8 0), .lit (.int .u8 0)], .agg [.lit (.int .u8 0), .lit (.int .u8 0)], .agg [.lit (.int .u8 0), .lit (.int .u8 0)], .agg [.lit (.int .u8 0), .lit (.int .u8 0)], .agg [.lit (.int .u8 0), .lit (.int .u8 0)], .agg [.lit (.int .u8 0), .lit (.int .u8 0)], .agg [.lit (.int .u8 0), .lit (.int .u8 0)], .agg [.lit (.int .u8 0), .lit (.int .u8 0)]]
def laid_redress_row_words {H : Type} : DataW H := .agg [.lit (.string [115, 107, 105, 112]), .lit (.string [116, 104, 114, 111, 119]), .lit (.string [121, 105, 101, 108, 100]), .lit (.string [115, 107, 105, 112, 112]), .lit (.string [116, 104, 114, 111, 119, 119]), .lit (.string [121, 105, 101, 108, 100, 100])]
/-- One of Go's own tables, pinned by name: the form's constant. -/
def laid_unicode_utf8_first : DataW Unit := Go.Pinned.utf8First

/-- 'redresslaw11.DoomActive': WHATEVER THE INPUT: true; the input reads as it did. -/
def doomActiveSpec : ChangeSpec := { name := "doomActive", fn := fun _ => fun
  | [d] => { results := [.lit (.bool true)], args := [d] }
  | _ => none }
def doomActiveRow : OpenClaim := { program := "ytdbabacjmkfkgaagreatdoor", sum := "ab26262d90a73e4077a89094b06fd1803e84fa835899a6642380342360a50ee8", func := "redress/redresslaw11.DoomActive", spec := "doomActive", inPlace := ["internal/bytealg.IndexByteString", "internal/bytealg.IndexString"], unfollowed := true, recurses := true, named := ["redress/row.words", "unicode/utf8.first", "unicode/utf8.acceptRanges", "internal/bytealg.MaxLen"], apart := false, laid := [("unicode/utf8.acceptRanges", laid_unicode_utf8_acceptRanges), ("redress/row.words", laid_redress_row_words), ("unicode/utf8.first", laid_unicode_utf8_first)] }
def DoomActiveSaid : Prop := doomActiveRow.holds Tryz.pinned (OpenSpec.ofChange doomActiveSpec)

/-- ITS FALSE NEIGHBOUR: 'it returns false'. Refute it at one input. -/
def doomActiveWrong : ChangeSpec := { name := "doomActive", fn := fun _ => fun
  | [d] => { results := [.lit (.bool false)], args := [d] }
  | _ => none }
def DoomActiveWrongFalsely : Prop := doomActiveRow.holds Tryz.pinned (OpenSpec.ofChange doomActiveWrong)

/-- 'redresslaw11.DoomFree': WHATEVER THE INPUT: true; the input reads as it did. -/
def doomFreeSpec : ChangeSpec := { name := "doomFree", fn := fun _ => fun
  | [d1, d2] => { results := [.lit (.bool true)], args := [d1, d2] }
  | _ => none }
def doomFreeRow : OpenClaim := { program := "ytdbabacjmkfkgaagreatdoor", sum := "ab26262d90a73e4077a89094b06fd1803e84fa835899a6642380342360a50ee8", func := "redress/redresslaw11.DoomFree", spec := "doomFree", inPlace := ["internal/bytealg.IndexByteString", "internal/bytealg.IndexString"], unfollowed := true, recurses := true, named := ["redress/row.words", "unicode/utf8.first", "unicode/utf8.acceptRanges", "internal/bytealg.MaxLen"], apart := false, laid := [("unicode/utf8.acceptRanges", laid_unicode_utf8_acceptRanges), ("redress/row.words", laid_redress_row_words), ("unicode/utf8.first", laid_unicode_utf8_first)] }
def DoomFreeSaid : Prop := doomFreeRow.holds Tryz.pinned (OpenSpec.ofChange doomFreeSpec)

/-- ITS FALSE NEIGHBOUR: 'it returns false'. Refute it at one input. -/
def doomFreeWrong : ChangeSpec := { name := "doomFree", fn := fun _ => fun
  | [d1, d2] => { results := [.lit (.bool false)], args := [d1, d2] }
  | _ => none }
def DoomFreeWrongFalsely : Prop := doomFreeRow.holds Tryz.pinned (OpenSpec.ofChange doomFreeWrong)

/-- 'redresslaw11.DoomMeans': WHATEVER THE INPUT: true; the input reads as it did. -/
def doomMeansSpec : ChangeSpec := { name := "doomMeans", fn := fun _ => fun
  | [d] => { results := [.lit (.bool true)], args := [d] }
  | _ => none }
def doomMeansRow : OpenClaim := { program := "ytdbabacjmkfkgaagreatdoor", sum := "ab26262d90a73e4077a89094b06fd1803e84fa835899a6642380342360a50ee8", func := "redress/redresslaw11.DoomMeans", spec := "doomMeans", inPlace := ["internal/bytealg.IndexByteString", "internal/bytealg.IndexString"], unfollowed := true, recurses := true, named := ["redress/row.words", "unicode/utf8.first", "unicode/utf8.acceptRanges", "internal/bytealg.MaxLen"], apart := false, laid := [("unicode/utf8.acceptRanges", laid_unicode_utf8_acceptRanges), ("redress/row.words", laid_redress_row_words), ("unicode/utf8.first", laid_unicode_utf8_first)] }
def DoomMeansSaid : Prop := doomMeansRow.holds Tryz.pinned (OpenSpec.ofChange doomMeansSpec)

/-- ITS FALSE NEIGHBOUR: 'it returns false'. Refute it at one input. -/
def doomMeansWrong : ChangeSpec := { name := "doomMeans", fn := fun _ => fun
  | [d] => { results := [.lit (.bool false)], args := [d] }
  | _ => none }
def DoomMeansWrongFalsely : Prop := doomMeansRow.holds Tryz.pinned (OpenSpec.ofChange doomMeansWrong)

/- THE SECOND FORM. 'bulk': how many values and letters a reading holds, each counted each time it is reached (what is shared counts as often as it is met; a slice's spare places count too). A statement '..UptoSaid' is the law's where the arguments, and the package variables that the reading takes, are together of bulk at most 1048576: NARROWER than '..Said'. Prove '..Said' where nothing that the law and all that it calls make is longer than what came in: it says more and counts as full. Else prove '..UptoSaid'. A law counts once. -/
mutual
def uptoBulk {H : Type} : DataW H → Nat
  | .lit (.string bytes) => bytes.length + 1
  | .lit _ => 1
  | .nil => 1
  | .ptr d => uptoBulk d + 1
  | .slice elems spare => uptoBulkAll elems + uptoBulkAll spare + 1
  | .agg parts => uptoBulkAll parts + 1
  | .iface _ d => uptoBulk d + 1
  | .map entries => uptoBulkEntries entries + 1
  | .held _ => 1
def uptoBulkAll {H : Type} : List (DataW H) → Nat
  | [] => 0
  | d :: r => uptoBulk d + uptoBulkAll r
def uptoBulkEntries {H : Type} : List (Lit × DataW H) → Nat
  | [] => 0
  | x :: r => uptoBulkEntry x + uptoBulkEntries r
def uptoBulkEntry {H : Type} : Lit × DataW H → Nat
  | (.string bytes, d) => bytes.length + uptoBulk d + 1
  | (_, d) => uptoBulk d + 1
 end
def uptoSmall : (H : Type) → List (DataW H) → Bool := fun _ ds => decide (uptoBulkAll ds ≤ 1048576)
def OpenSpec.upto (s : _root_.Go.ChangeSpec) : _root_.Go.OpenSpec := { _root_.Go.OpenSpec.ofChange s with cond := some uptoSmall }

/-- 'redresslaw11.DoomActive', WHERE WHAT IT READS IS OF BULK AT MOST 1048576: true; the input reads as it did. -/
def doomActiveUptoRow : OpenClaim := { program := "ytdbabacjmkfkgaagreatdoor", sum := "ab26262d90a73e4077a89094b06fd1803e84fa835899a6642380342360a50ee8", func := "redress/redresslaw11.DoomActive", spec := "doomActive", inPlace := ["internal/bytealg.IndexByteString", "internal/bytealg.IndexString"], unfollowed := true, recurses := true, named := ["redress/row.words", "unicode/utf8.first", "unicode/utf8.acceptRanges", "internal/bytealg.MaxLen"], apart := false, laid := [("unicode/utf8.acceptRanges", laid_unicode_utf8_acceptRanges), ("redress/row.words", laid_redress_row_words), ("unicode/utf8.first", laid_unicode_utf8_first)], narrowed := true }
def DoomActiveUptoSaid : Prop := doomActiveUptoRow.holds Tryz.pinned (OpenSpec.upto doomActiveSpec)

/-- 'redresslaw11.DoomFree', WHERE WHAT IT READS IS OF BULK AT MOST 1048576: true; the input reads as it did. -/
def doomFreeUptoRow : OpenClaim := { program := "ytdbabacjmkfkgaagreatdoor", sum := "ab26262d90a73e4077a89094b06fd1803e84fa835899a6642380342360a50ee8", func := "redress/redresslaw11.DoomFree", spec := "doomFree", inPlace := ["internal/bytealg.IndexByteString", "internal/bytealg.IndexString"], unfollowed := true, recurses := true, named := ["redress/row.words", "unicode/utf8.first", "unicode/utf8.acceptRanges", "internal/bytealg.MaxLen"], apart := false, laid := [("unicode/utf8.acceptRanges", laid_unicode_utf8_acceptRanges), ("redress/row.words", laid_redress_row_words), ("unicode/utf8.first", laid_unicode_utf8_first)], narrowed := true }
def DoomFreeUptoSaid : Prop := doomFreeUptoRow.holds Tryz.pinned (OpenSpec.upto doomFreeSpec)

/-- 'redresslaw11.DoomMeans', WHERE WHAT IT READS IS OF BULK AT MOST 1048576: true; the input reads as it did. -/
def doomMeansUptoRow : OpenClaim := { program := "ytdbabacjmkfkgaagreatdoor", sum := "ab26262d90a73e4077a89094b06fd1803e84fa835899a6642380342360a50ee8", func := "redress/redresslaw11.DoomMeans", spec := "doomMeans", inPlace := ["internal/bytealg.IndexByteString", "internal/bytealg.IndexString"], unfollowed := true, recurses := true, named := ["redress/row.words", "unicode/utf8.first", "unicode/utf8.acceptRanges", "internal/bytealg.MaxLen"], apart := false, laid := [("unicode/utf8.acceptRanges", laid_unicode_utf8_acceptRanges), ("redress/row.words", laid_redress_row_words), ("unicode/utf8.first", laid_unicode_utf8_first)], narrowed := true }
def DoomMeansUptoSaid : Prop := doomMeansUptoRow.holds Tryz.pinned (OpenSpec.upto doomMeansSpec)

end Rows
end Go.Proofs.YtdbabacjmkfkgaaGreatDoor
