/-
  NARROWER THAN 'FOR EVERY INPUT', by the rows' own cells (each row's printed sentence says how): DoomWaits: laid · DoomOutside: laid · DoomPar: laid.
  DERIVED. THE GIVEN ROWS OF THIS SEAT. 3 by the template 'for every input the law returns true; each argument reads behind the call as it read before'; 0 by the template 'total and deterministic' (their statements: YtdbabacjmkfkgaaDoorTotals.lean).
  GIVEN WITH THE SEED: the statements are not yours to turn. If you find one false, say at which input.
  Laid BY PROGRAM, IN A SANDBOX (cutbox-rows.mjs): the forced cells as the released guide's own fill.sh prints them over the translation 11df9ca852abd67f… (all of the seat's roots in one cut). By AI agents, Wed Nov 11 2026. No macro, syntax, notation, axiom, sorry.
-/
import Derived.Test.YtdbabacjmkfkgaaDoorChecked
import GoSem.PinnedTables
import GoSem.Claim
import GoSem.ClaimJoined
import GoSem.ClaimMapViews
import Derived.JoinedTies
import Derived.KernelRfl
namespace Go.Proofs.YtdbabacjmkfkgaaDoor
/- THE CELL 'sum', in the pinned program and in every row, IS THE sha256 OF THE DUMP (.gsa) THAT YtdbabacjmkfkgaaDoorProg.lean LOADS. Nothing in Lean hashes anything: it is a label: what it is worth is what the hold of that sum in a sandbox is worth. -/
noncomputable def Tryd.pinned : Pinned := { name := "ytdbabacjmkfkgaadoor", sum := "11df9ca852abd67f2bfdf7eb757144b798df2081022390155044ce5610aa8c69", checked := Tryd.checked }
namespace Rows
def none {H : Type} : Left H := { results := [], args := [] }

/- WHAT THE LISTED PACKAGE-LEVEL VARIABLES READ AS WHEN THE CALL BEGINS. Each datum BY PROGRAM (the guide's laid-datum.mjs) off the statement by which the dump's own 'gosem.cut.vars' lays the variable. In a bare row this is a premise. The card (YtdbabacjmkfkgaaDoorCards.lean) ties it to the program's text. -/
def laid_unicode_utf8_acceptRanges {H : Type} : DataW H := .agg [.agg [.lit (.int .u8 128), .lit (.int .u8 191)], .agg [.lit (.int .u8 160), .lit (.int .u8 191)], .agg [.lit (.int .u8 128), .lit (.int .u8 159)], .agg [.lit (.int .u8 144), .lit (.int .u8 191)], .agg [.lit (.int .u8 128), .lit (.int .u8 143)], .agg [.lit (.int .u8 0), .lit (.int .u8 0)], .agg [.lit (.int .u8 0), .lit (.int .u8 0)], .agg [.lit (.int .u8 0), .lit (.int .u8 0)], .agg [.lit (.int .u8 0), .lit (.int .u8 0)], .agg [.lit (.int .u8 0), .lit (.int .u8 0)], .agg [.lit (.int .u8 0), .lit (.int .u8 0)], .agg [.lit (.int .u8 0), .lit (.int .u8 0)], .agg [.lit (.int .u8 0), .lit (.int .u8 0)], .agg [.lit (.int .u8 0), .lit (.int .u8 0)], .agg [.lit (.int .u8 0), .lit (.int .u8 0)], .agg [.lit (.int .u8 0), .lit (.int .u8 0)]]
def laid_redress_row_words {H : Type} : DataW H := .agg [.lit (.string [115, 107, 105, 112]), .lit (.string [116, 104, 114, 111, 119]), .lit (.string [121, 105, 101, 108, 100]), .lit (.string [115, 107, 105, 112, 112]), .lit (.string [116, 104, 114, 111, 119, 119]), .lit (.string [121, 105, 101, 108, 100, 100])]
/-- One of Go's own tables, pinned by name: the form's constant. -/
def laid_unicode_utf8_first : DataW Unit := Go.Pinned.utf8First

/-- 'redresslaw11.DoomWaits': WHATEVER THE INPUT: true; the input reads as it did. -/
def doomWaitsSpec : ChangeSpec := { name := "doomWaits", fn := fun _ => fun
  | [d] => { results := [.lit (.bool true)], args := [d] }
  | _ => none }
def doomWaitsRow : OpenClaim := { program := "ytdbabacjmkfkgaadoor", sum := "11df9ca852abd67f2bfdf7eb757144b798df2081022390155044ce5610aa8c69", func := "redress/redresslaw11.DoomWaits", spec := "doomWaits", inPlace := ["internal/bytealg.IndexByteString", "internal/bytealg.IndexString"], unfollowed := true, recurses := true, named := ["redress/row.words", "unicode/utf8.first", "unicode/utf8.acceptRanges", "internal/bytealg.MaxLen"], apart := false, laid := [("unicode/utf8.acceptRanges", laid_unicode_utf8_acceptRanges), ("redress/row.words", laid_redress_row_words), ("unicode/utf8.first", laid_unicode_utf8_first)] }
def DoomWaitsSaid : Prop := doomWaitsRow.holds Tryd.pinned (OpenSpec.ofChange doomWaitsSpec)

/-- ITS FALSE NEIGHBOUR: 'it returns false'. Refute it at one input. -/
def doomWaitsWrong : ChangeSpec := { name := "doomWaits", fn := fun _ => fun
  | [d] => { results := [.lit (.bool false)], args := [d] }
  | _ => none }
def DoomWaitsWrongFalsely : Prop := doomWaitsRow.holds Tryd.pinned (OpenSpec.ofChange doomWaitsWrong)

/-- 'redresslaw11.DoomOutside': WHATEVER THE INPUT: true; the input reads as it did. -/
def doomOutsideSpec : ChangeSpec := { name := "doomOutside", fn := fun _ => fun
  | [d] => { results := [.lit (.bool true)], args := [d] }
  | _ => none }
def doomOutsideRow : OpenClaim := { program := "ytdbabacjmkfkgaadoor", sum := "11df9ca852abd67f2bfdf7eb757144b798df2081022390155044ce5610aa8c69", func := "redress/redresslaw11.DoomOutside", spec := "doomOutside", inPlace := ["internal/bytealg.IndexByteString", "internal/bytealg.IndexString"], unfollowed := true, recurses := true, named := ["redress/row.words", "unicode/utf8.first", "unicode/utf8.acceptRanges", "internal/bytealg.MaxLen"], apart := false, laid := [("unicode/utf8.acceptRanges", laid_unicode_utf8_acceptRanges), ("redress/row.words", laid_redress_row_words), ("unicode/utf8.first", laid_unicode_utf8_first)] }
def DoomOutsideSaid : Prop := doomOutsideRow.holds Tryd.pinned (OpenSpec.ofChange doomOutsideSpec)

/-- ITS FALSE NEIGHBOUR: 'it returns false'. Refute it at one input. -/
def doomOutsideWrong : ChangeSpec := { name := "doomOutside", fn := fun _ => fun
  | [d] => { results := [.lit (.bool false)], args := [d] }
  | _ => none }
def DoomOutsideWrongFalsely : Prop := doomOutsideRow.holds Tryd.pinned (OpenSpec.ofChange doomOutsideWrong)

/-- 'redresslaw11.DoomPar': WHATEVER THE INPUT: true; the input reads as it did. -/
def doomParSpec : ChangeSpec := { name := "doomPar", fn := fun _ => fun
  | [d1, d2] => { results := [.lit (.bool true)], args := [d1, d2] }
  | _ => none }
def doomParRow : OpenClaim := { program := "ytdbabacjmkfkgaadoor", sum := "11df9ca852abd67f2bfdf7eb757144b798df2081022390155044ce5610aa8c69", func := "redress/redresslaw11.DoomPar", spec := "doomPar", inPlace := ["internal/bytealg.IndexByteString", "internal/bytealg.IndexString"], unfollowed := true, recurses := true, named := ["redress/row.words", "unicode/utf8.first", "unicode/utf8.acceptRanges", "internal/bytealg.MaxLen"], apart := false, laid := [("unicode/utf8.acceptRanges", laid_unicode_utf8_acceptRanges), ("redress/row.words", laid_redress_row_words), ("unicode/utf8.first", laid_unicode_utf8_first)] }
def DoomParSaid : Prop := doomParRow.holds Tryd.pinned (OpenSpec.ofChange doomParSpec)

/-- ITS FALSE NEIGHBOUR: 'it returns false'. Refute it at one input. -/
def doomParWrong : ChangeSpec := { name := "doomPar", fn := fun _ => fun
  | [d1, d2] => { results := [.lit (.bool false)], args := [d1, d2] }
  | _ => none }
def DoomParWrongFalsely : Prop := doomParRow.holds Tryd.pinned (OpenSpec.ofChange doomParWrong)

/- THE SECOND FORM. 'bulk': how many values and letters a reading holds, each counted each time it is reached (what is shared counts as often as it is met; a slice's spare places count too). A statement '..UptoSaid' is the law's where the arguments, and the package variables that the reading takes, are together of bulk at most 1048576: NARROWER than '..Said'. Prove '..Said' where nothing that the law and all that it calls make is longer than what came in: it says more and counts as full. Else prove '..UptoSaid'. A law counts once. -/
mutual
def uptoBulk {H : Type} : DataW H → Nat
  | .lit (.string bytes) => bytes.length + 1
  | .lit _ => 1
  | .nil => 1
  | .ptr d => uptoBulk d + 1
  | .slice elems spare => uptoBulkAll elems + uptoBulkAll spare + 1
  | .agg parts => uptoBulkAll parts + 1
  | .iface _ d => uptoBulk d + 1
  | .map entries => uptoBulkEntries entries + 1
  | .held _ => 1
def uptoBulkAll {H : Type} : List (DataW H) → Nat
  | [] => 0
  | d :: r => uptoBulk d + uptoBulkAll r
def uptoBulkEntries {H : Type} : List (Lit × DataW H) → Nat
  | [] => 0
  | x :: r => uptoBulkEntry x + uptoBulkEntries r
def uptoBulkEntry {H : Type} : Lit × DataW H → Nat
  | (.string bytes, d) => bytes.length + uptoBulk d + 1
  | (_, d) => uptoBulk d + 1
 end
def uptoSmall : (H : Type) → List (DataW H) → Bool := fun _ ds => decide (uptoBulkAll ds ≤ 1048576)
def OpenSpec.upto (s : _root_.Go.ChangeSpec) : _root_.Go.OpenSpec := { _root_.Go.OpenSpec.ofChange s with cond := some uptoSmall }

/-- 'redresslaw11.DoomWaits', WHERE WHAT IT READS IS OF BULK AT MOST 1048576: true; the input reads as it did. -/
def doomWaitsUptoRow : OpenClaim := { program := "ytdbabacjmkfkgaadoor", sum := "11df9ca852abd67f2bfdf7eb757144b798df2081022390155044ce5610aa8c69", func := "redress/redresslaw11.DoomWaits", spec := "doomWaits", inPlace := ["internal/bytealg.IndexByteString", "internal/bytealg.IndexString"], unfollowed := true, recurses := true, named := ["redress/row.words", "unicode/utf8.first", "unicode/utf8.acceptRanges", "internal/bytealg.MaxLen"], apart := false, laid := [("unicode/utf8.acceptRanges", laid_unicode_utf8_acceptRanges), ("redress/row.words", laid_redress_row_words), ("unicode/utf8.first", laid_unicode_utf8_first)], narrowed := true }
def DoomWaitsUptoSaid : Prop := doomWaitsUptoRow.holds Tryd.pinned (OpenSpec.upto doomWaitsSpec)

/-- 'redresslaw11.DoomOutside', WHERE WHAT IT READS IS OF BULK AT MOST 1048576: true; the input reads as it did. -/
def doomOutsideUptoRow : OpenClaim := { program := "ytdbabacjmkfkgaadoor", sum := "11df9ca852abd67f2bfdf7eb757144b798df2081022390155044ce5610aa8c69", func := "redress/redresslaw11.DoomOutside", spec := "doomOutside", inPlace := ["internal/bytealg.IndexByteString", "internal/bytealg.IndexString"], unfollowed := true, recurses := true, named := ["redress/row.words", "unicode/utf8.first", "unicode/utf8.acceptRanges", "internal/bytealg.MaxLen"], apart := false, laid := [("unicode/utf8.acceptRanges", laid_unicode_utf8_acceptRanges), ("redress/row.words", laid_redress_row_words), ("unicode/utf8.first", laid_unicode_utf8_first)], narrowed := true }
def DoomOutsideUptoSaid : Prop := doomOutsideUptoRow.holds Tryd.pinned (OpenSpec.upto doomOutsideSpec)

/-- 'redresslaw11.DoomPar', WHERE WHAT IT READS IS OF BULK AT MOST 1048576: true; the input reads as it did. -/
def doomParUptoRow : OpenClaim := { program := "ytdbabacjmkfkgaadoor", sum := "11df9ca852abd67f2bfdf7eb757144b798df2081022390155044ce5610aa8c69", func := "redress/redresslaw11.DoomPar", spec := "doomPar", inPlace := ["internal/bytealg.IndexByteString", "internal/bytealg.IndexString"], unfollowed := true, recurses := true, named := ["redress/row.words", "unicode/utf8.first", "unicode/utf8.acceptRanges", "internal/bytealg.MaxLen"], apart := false, laid := [("unicode/utf8.acceptRanges", laid_unicode_utf8_acceptRanges), ("redress/row.words", laid_redress_row_words), ("unicode/utf8.first", laid_unicode_utf8_first)], narrowed := true }
def DoomParUptoSaid : Prop := doomParUptoRow.holds Tryd.pinned (OpenSpec.upto doomParSpec)

end Rows
end Go.Proofs.YtdbabacjmkfkgaaDoor
