/-
  NARROWER THAN 'FOR EVERY INPUT', by the rows' own cells (each row's printed sentence says how): SettleAll: laid · SettleBegins: laid · SettleTwice: laid · SettleEnds: laid · SettleUnder: laid · SettleLess: laid.
  DERIVED. THE GIVEN ROWS OF THIS SEAT. 6 by the template 'for every input the law returns true; each argument reads behind the call as it read before'; 0 by the template 'total and deterministic' (their statements: YtlnpacehjfoffaaDoorTotals.lean).
  GIVEN WITH THE SEED: the statements are not yours to turn. If you find one false, say at which input.
  Laid BY PROGRAM, IN A SANDBOX (cutbox-rows.mjs): the forced cells as the released guide's own fill.sh prints them over the translation 3962c663281b34bc… (all of the seat's roots in one cut). By AI agents, Wed Nov 11 2026. No macro, syntax, notation, axiom, sorry.
-/
import Derived.Test.YtlnpacehjfoffaaDoorChecked
import GoSem.PinnedTables
import GoSem.Claim
import GoSem.ClaimJoined
import GoSem.ClaimMapViews
import Derived.JoinedTies
import Derived.KernelRfl
namespace Go.Proofs.YtlnpacehjfoffaaDoor
/- THE CELL 'sum', in the pinned program and in every row, IS THE sha256 OF THE DUMP (.gsa) THAT YtlnpacehjfoffaaDoorProg.lean LOADS. Nothing in Lean hashes anything: it is a label: what it is worth is what the hold of that sum in a sandbox is worth. -/
noncomputable def Tryd.pinned : Pinned := { name := "ytlnpacehjfoffaadoor", sum := "3962c663281b34bc3e81b2baeda544739dc832e5b0a3bc56368b51f60f60e506", checked := Tryd.checked }
namespace Rows
def none {H : Type} : Left H := { results := [], args := [] }

/- WHAT THE LISTED PACKAGE-LEVEL VARIABLES READ AS WHEN THE CALL BEGINS. Each datum BY PROGRAM (the guide's laid-datum.mjs) off the statement by which the dump's own 'gosem.cut.vars' lays the variable. In a bare row this is a premise. The card (YtlnpacehjfoffaaDoorCards.lean) ties it to the program's text. -/
def laid_unicode_utf8_acceptRanges {H : Type} : DataW H := .agg [.agg [.lit (.int .u8 128), .lit (.int .u8 191)], .agg [.lit (.int .u8 160), .lit (.int .u8 191)], .agg [.lit (.int .u8 128), .lit (.int .u8 159)], .agg [.lit (.int .u8 144), .lit (.int .u8 191)], .agg [.lit (.int .u8 128), .lit (.int .u8 143)], .agg [.lit (.int .u8 0), .lit (.int .u8 0)], .agg [.lit (.int .u8 0), .lit (.int .u8 0)], .agg [.lit (.int .u8 0), .lit (.int .u8 0)], .agg [.lit (.int .u8 0), .lit (.int .u8 0)], .agg [.lit (.int .u8 0), .lit (.int .u8 0)], .agg [.lit (.int .u8 0), .lit (.int .u8 0)], .agg [.lit (.int .u8 0), .lit (.int .u8 0)], .agg [.lit (.int .u8 0), .lit (.int .u8 0)], .agg [.lit (.int .u8 0), .lit (.int .u8 0)], .agg [.lit (.int .u8 0), .lit (.int .u8 0)], .agg [.lit (.int .u8 0), .lit (.int .u8 0)]]
def laid_redress_row_words {H : Type} : DataW H := .agg [.lit (.string [115, 107, 105, 112]), .lit (.string [116, 104, 114, 111, 119]), .lit (.string [121, 105, 101, 108, 100]), .lit (.string [115, 107, 105, 112, 112]), .lit (.string [116, 104, 114, 111, 119, 119]), .lit (.string [121, 105, 101, 108, 100, 100])]
/-- One of Go's own tables, pinned by name: the form's constant. -/
def laid_unicode_utf8_first : DataW Unit := Go.Pinned.utf8First

/-- 'redresslaw10.SettleAll': WHATEVER THE INPUT: true; the input reads as it did. -/
def settleAllSpec : ChangeSpec := { name := "settleAll", fn := fun _ => fun
  | [d] => { results := [.lit (.bool true)], args := [d] }
  | _ => none }
def settleAllRow : OpenClaim := { program := "ytlnpacehjfoffaadoor", sum := "3962c663281b34bc3e81b2baeda544739dc832e5b0a3bc56368b51f60f60e506", func := "redress/redresslaw10.SettleAll", spec := "settleAll", inPlace := ["internal/bytealg.IndexByteString", "internal/bytealg.IndexString"], unfollowed := true, recurses := true, named := ["redress/row.words", "unicode/utf8.first", "unicode/utf8.acceptRanges", "internal/bytealg.MaxLen"], apart := false, laid := [("unicode/utf8.acceptRanges", laid_unicode_utf8_acceptRanges), ("redress/row.words", laid_redress_row_words), ("unicode/utf8.first", laid_unicode_utf8_first)] }
def SettleAllSaid : Prop := settleAllRow.holds Tryd.pinned (OpenSpec.ofChange settleAllSpec)

/-- ITS FALSE NEIGHBOUR: 'it returns false'. Refute it at one input. -/
def settleAllWrong : ChangeSpec := { name := "settleAll", fn := fun _ => fun
  | [d] => { results := [.lit (.bool false)], args := [d] }
  | _ => none }
def SettleAllWrongFalsely : Prop := settleAllRow.holds Tryd.pinned (OpenSpec.ofChange settleAllWrong)

/-- 'redresslaw10.SettleBegins': WHATEVER THE INPUT: true; the input reads as it did. -/
def settleBeginsSpec : ChangeSpec := { name := "settleBegins", fn := fun _ => fun
  | [d] => { results := [.lit (.bool true)], args := [d] }
  | _ => none }
def settleBeginsRow : OpenClaim := { program := "ytlnpacehjfoffaadoor", sum := "3962c663281b34bc3e81b2baeda544739dc832e5b0a3bc56368b51f60f60e506", func := "redress/redresslaw10.SettleBegins", spec := "settleBegins", inPlace := ["internal/bytealg.IndexByteString", "internal/bytealg.IndexString"], unfollowed := true, recurses := true, named := ["redress/row.words", "unicode/utf8.first", "unicode/utf8.acceptRanges", "internal/bytealg.MaxLen"], apart := false, laid := [("unicode/utf8.acceptRanges", laid_unicode_utf8_acceptRanges), ("redress/row.words", laid_redress_row_words), ("unicode/utf8.first", laid_unicode_utf8_first)] }
def SettleBeginsSaid : Prop := settleBeginsRow.holds Tryd.pinned (OpenSpec.ofChange settleBeginsSpec)

/-- ITS FALSE NEIGHBOUR: 'it returns false'. Refute it at one input. -/
def settleBeginsWrong : ChangeSpec := { name := "settleBegins", fn := fun _ => fun
  | [d] => { results := [.lit (.bool false)], args := [d] }
  | _ => none }
def SettleBeginsWrongFalsely : Prop := settleBeginsRow.holds Tryd.pinned (OpenSpec.ofChange settleBeginsWrong)

/-- 'redresslaw10.SettleTwice': WHATEVER THE INPUT: true; the input reads as it did. -/
def settleTwiceSpec : ChangeSpec := { name := "settleTwice", fn := fun _ => fun
  | [d] => { results := [.lit (.bool true)], args := [d] }
  | _ => none }
def settleTwiceRow : OpenClaim := { program := "ytlnpacehjfoffaadoor", sum := "3962c663281b34bc3e81b2baeda544739dc832e5b0a3bc56368b51f60f60e506", func := "redress/redresslaw10.SettleTwice", spec := "settleTwice", inPlace := ["internal/bytealg.IndexByteString", "internal/bytealg.IndexString"], unfollowed := true, recurses := true, named := ["redress/row.words", "unicode/utf8.first", "unicode/utf8.acceptRanges", "internal/bytealg.MaxLen"], apart := false, laid := [("unicode/utf8.acceptRanges", laid_unicode_utf8_acceptRanges), ("redress/row.words", laid_redress_row_words), ("unicode/utf8.first", laid_unicode_utf8_first)] }
def SettleTwiceSaid : Prop := settleTwiceRow.holds Tryd.pinned (OpenSpec.ofChange settleTwiceSpec)

/-- ITS FALSE NEIGHBOUR: 'it returns false'. Refute it at one input. -/
def settleTwiceWrong : ChangeSpec := { name := "settleTwice", fn := fun _ => fun
  | [d] => { results := [.lit (.bool false)], args := [d] }
  | _ => none }
def SettleTwiceWrongFalsely : Prop := settleTwiceRow.holds Tryd.pinned (OpenSpec.ofChange settleTwiceWrong)

/-- 'redresslaw10.SettleEnds': WHATEVER THE INPUT: true; the input reads as it did. -/
def settleEndsSpec : ChangeSpec := { name := "settleEnds", fn := fun _ => fun
  | [d] => { results := [.lit (.bool true)], args := [d] }
  | _ => none }
def settleEndsRow : OpenClaim := { program := "ytlnpacehjfoffaadoor", sum := "3962c663281b34bc3e81b2baeda544739dc832e5b0a3bc56368b51f60f60e506", func := "redress/redresslaw10.SettleEnds", spec := "settleEnds", inPlace := ["internal/bytealg.IndexByteString", "internal/bytealg.IndexString"], unfollowed := true, recurses := true, named := ["redress/row.words", "unicode/utf8.first", "unicode/utf8.acceptRanges", "internal/bytealg.MaxLen"], apart := false, laid := [("unicode/utf8.acceptRanges", laid_unicode_utf8_acceptRanges), ("redress/row.words", laid_redress_row_words), ("unicode/utf8.first", laid_unicode_utf8_first)] }
def SettleEndsSaid : Prop := settleEndsRow.holds Tryd.pinned (OpenSpec.ofChange settleEndsSpec)

/-- ITS FALSE NEIGHBOUR: 'it returns false'. Refute it at one input. -/
def settleEndsWrong : ChangeSpec := { name := "settleEnds", fn := fun _ => fun
  | [d] => { results := [.lit (.bool false)], args := [d] }
  | _ => none }
def SettleEndsWrongFalsely : Prop := settleEndsRow.holds Tryd.pinned (OpenSpec.ofChange settleEndsWrong)

/-- 'redresslaw10.SettleUnder': WHATEVER THE INPUT: true; the input reads as it did. -/
def settleUnderSpec : ChangeSpec := { name := "settleUnder", fn := fun _ => fun
  | [d1, d2] => { results := [.lit (.bool true)], args := [d1, d2] }
  | _ => none }
def settleUnderRow : OpenClaim := { program := "ytlnpacehjfoffaadoor", sum := "3962c663281b34bc3e81b2baeda544739dc832e5b0a3bc56368b51f60f60e506", func := "redress/redresslaw10.SettleUnder", spec := "settleUnder", inPlace := ["internal/bytealg.IndexByteString", "internal/bytealg.IndexString"], unfollowed := true, recurses := true, named := ["redress/row.words", "unicode/utf8.first", "unicode/utf8.acceptRanges", "internal/bytealg.MaxLen"], apart := false, laid := [("unicode/utf8.acceptRanges", laid_unicode_utf8_acceptRanges), ("redress/row.words", laid_redress_row_words), ("unicode/utf8.first", laid_unicode_utf8_first)] }
def SettleUnderSaid : Prop := settleUnderRow.holds Tryd.pinned (OpenSpec.ofChange settleUnderSpec)

/-- ITS FALSE NEIGHBOUR: 'it returns false'. Refute it at one input. -/
def settleUnderWrong : ChangeSpec := { name := "settleUnder", fn := fun _ => fun
  | [d1, d2] => { results := [.lit (.bool false)], args := [d1, d2] }
  | _ => none }
def SettleUnderWrongFalsely : Prop := settleUnderRow.holds Tryd.pinned (OpenSpec.ofChange settleUnderWrong)

/-- 'redresslaw10.SettleLess': WHATEVER THE INPUT: true; the input reads as it did. -/
def settleLessSpec : ChangeSpec := { name := "settleLess", fn := fun _ => fun
  | [d] => { results := [.lit (.bool true)], args := [d] }
  | _ => none }
def settleLessRow : OpenClaim := { program := "ytlnpacehjfoffaadoor", sum := "3962c663281b34bc3e81b2baeda544739dc832e5b0a3bc56368b51f60f60e506", func := "redress/redresslaw10.SettleLess", spec := "settleLess", inPlace := ["internal/bytealg.IndexByteString", "internal/bytealg.IndexString"], unfollowed := true, recurses := true, named := ["redress/row.words", "unicode/utf8.first", "unicode/utf8.acceptRanges", "internal/bytealg.MaxLen"], apart := false, laid := [("unicode/utf8.acceptRanges", laid_unicode_utf8_acceptRanges), ("redress/row.words", laid_redress_row_words), ("unicode/utf8.first", laid_unicode_utf8_first)] }
def SettleLessSaid : Prop := settleLessRow.holds Tryd.pinned (OpenSpec.ofChange settleLessSpec)

/-- ITS FALSE NEIGHBOUR: 'it returns false'. Refute it at one input. -/
def settleLessWrong : ChangeSpec := { name := "settleLess", fn := fun _ => fun
  | [d] => { results := [.lit (.bool false)], args := [d] }
  | _ => none }
def SettleLessWrongFalsely : Prop := settleLessRow.holds Tryd.pinned (OpenSpec.ofChange settleLessWrong)

/- THE SECOND FORM. 'bulk': how many values and letters a reading holds, each counted each time it is reached (what is shared counts as often as it is met; a slice's spare places count too). A statement '..UptoSaid' is the law's where the arguments, and the package variables that the reading takes, are together of bulk at most 1048576: NARROWER than '..Said'. Prove '..Said' where nothing that the law and all that it calls make is longer than what came in: it says more and counts as full. Else prove '..UptoSaid'. A law counts once. -/
mutual
def uptoBulk {H : Type} : DataW H → Nat
  | .lit (.string bytes) => bytes.length + 1
  | .lit _ => 1
  | .nil => 1
  | .ptr d => uptoBulk d + 1
  | .slice elems spare => uptoBulkAll elems + uptoBulkAll spare + 1
  | .agg parts => uptoBulkAll parts + 1
  | .iface _ d => uptoBulk d + 1
  | .map entries => uptoBulkEntries entries + 1
  | .held _ => 1
def uptoBulkAll {H : Type} : List (DataW H) → Nat
  | [] => 0
  | d :: r => uptoBulk d + uptoBulkAll r
def uptoBulkEntries {H : Type} : List (Lit × DataW H) → Nat
  | [] => 0
  | x :: r => uptoBulkEntry x + uptoBulkEntries r
def uptoBulkEntry {H : Type} : Lit × DataW H → Nat
  | (.string bytes, d) => bytes.length + uptoBulk d + 1
  | (_, d) => uptoBulk d + 1
 end
def uptoSmall : (H : Type) → List (DataW H) → Bool := fun _ ds => decide (uptoBulkAll ds ≤ 1048576)
def OpenSpec.upto (s : _root_.Go.ChangeSpec) : _root_.Go.OpenSpec := { _root_.Go.OpenSpec.ofChange s with cond := some uptoSmall }

/-- 'redresslaw10.SettleAll', WHERE WHAT IT READS IS OF BULK AT MOST 1048576: true; the input reads as it did. -/
def settleAllUptoRow : OpenClaim := { program := "ytlnpacehjfoffaadoor", sum := "3962c663281b34bc3e81b2baeda544739dc832e5b0a3bc56368b51f60f60e506", func := "redress/redresslaw10.SettleAll", spec := "settleAll", inPlace := ["internal/bytealg.IndexByteString", "internal/bytealg.IndexString"], unfollowed := true, recurses := true, named := ["redress/row.words", "unicode/utf8.first", "unicode/utf8.acceptRanges", "internal/bytealg.MaxLen"], apart := false, laid := [("unicode/utf8.acceptRanges", laid_unicode_utf8_acceptRanges), ("redress/row.words", laid_redress_row_words), ("unicode/utf8.first", laid_unicode_utf8_first)], narrowed := true }
def SettleAllUptoSaid : Prop := settleAllUptoRow.holds Tryd.pinned (OpenSpec.upto settleAllSpec)

/-- 'redresslaw10.SettleBegins', WHERE WHAT IT READS IS OF BULK AT MOST 1048576: true; the input reads as it did. -/
def settleBeginsUptoRow : OpenClaim := { program := "ytlnpacehjfoffaadoor", sum := "3962c663281b34bc3e81b2baeda544739dc832e5b0a3bc56368b51f60f60e506", func := "redress/redresslaw10.SettleBegins", spec := "settleBegins", inPlace := ["internal/bytealg.IndexByteString", "internal/bytealg.IndexString"], unfollowed := true, recurses := true, named := ["redress/row.words", "unicode/utf8.first", "unicode/utf8.acceptRanges", "internal/bytealg.MaxLen"], apart := false, laid := [("unicode/utf8.acceptRanges", laid_unicode_utf8_acceptRanges), ("redress/row.words", laid_redress_row_words), ("unicode/utf8.first", laid_unicode_utf8_first)], narrowed := true }
def SettleBeginsUptoSaid : Prop := settleBeginsUptoRow.holds Tryd.pinned (OpenSpec.upto settleBeginsSpec)

/-- 'redresslaw10.SettleTwice', WHERE WHAT IT READS IS OF BULK AT MOST 1048576: true; the input reads as it did. -/
def settleTwiceUptoRow : OpenClaim := { program := "ytlnpacehjfoffaadoor", sum := "3962c663281b34bc3e81b2baeda544739dc832e5b0a3bc56368b51f60f60e506", func := "redress/redresslaw10.SettleTwice", spec := "settleTwice", inPlace := ["internal/bytealg.IndexByteString", "internal/bytealg.IndexString"], unfollowed := true, recurses := true, named := ["redress/row.words", "unicode/utf8.first", "unicode/utf8.acceptRanges", "internal/bytealg.MaxLen"], apart := false, laid := [("unicode/utf8.acceptRanges", laid_unicode_utf8_acceptRanges), ("redress/row.words", laid_redress_row_words), ("unicode/utf8.first", laid_unicode_utf8_first)], narrowed := true }
def SettleTwiceUptoSaid : Prop := settleTwiceUptoRow.holds Tryd.pinned (OpenSpec.upto settleTwiceSpec)

/-- 'redresslaw10.SettleEnds', WHERE WHAT IT READS IS OF BULK AT MOST 1048576: true; the input reads as it did. -/
def settleEndsUptoRow : OpenClaim := { program := "ytlnpacehjfoffaadoor", sum := "3962c663281b34bc3e81b2baeda544739dc832e5b0a3bc56368b51f60f60e506", func := "redress/redresslaw10.SettleEnds", spec := "settleEnds", inPlace := ["internal/bytealg.IndexByteString", "internal/bytealg.IndexString"], unfollowed := true, recurses := true, named := ["redress/row.words", "unicode/utf8.first", "unicode/utf8.acceptRanges", "internal/bytealg.MaxLen"], apart := false, laid := [("unicode/utf8.acceptRanges", laid_unicode_utf8_acceptRanges), ("redress/row.words", laid_redress_row_words), ("unicode/utf8.first", laid_unicode_utf8_first)], narrowed := true }
def SettleEndsUptoSaid : Prop := settleEndsUptoRow.holds Tryd.pinned (OpenSpec.upto settleEndsSpec)

/-- 'redresslaw10.SettleUnder', WHERE WHAT IT READS IS OF BULK AT MOST 1048576: true; the input reads as it did. -/
def settleUnderUptoRow : OpenClaim := { program := "ytlnpacehjfoffaadoor", sum := "3962c663281b34bc3e81b2baeda544739dc832e5b0a3bc56368b51f60f60e506", func := "redress/redresslaw10.SettleUnder", spec := "settleUnder", inPlace := ["internal/bytealg.IndexByteString", "internal/bytealg.IndexString"], unfollowed := true, recurses := true, named := ["redress/row.words", "unicode/utf8.first", "unicode/utf8.acceptRanges", "internal/bytealg.MaxLen"], apart := false, laid := [("unicode/utf8.acceptRanges", laid_unicode_utf8_acceptRanges), ("redress/row.words", laid_redress_row_words), ("unicode/utf8.first", laid_unicode_utf8_first)], narrowed := true }
def SettleUnderUptoSaid : Prop := settleUnderUptoRow.holds Tryd.pinned (OpenSpec.upto settleUnderSpec)

/-- 'redresslaw10.SettleLess', WHERE WHAT IT READS IS OF BULK AT MOST 1048576: true; the input reads as it did. -/
def settleLessUptoRow : OpenClaim := { program := "ytlnpacehjfoffaadoor", sum := "3962c663281b34bc3e81b2baeda544739dc832e5b0a3bc56368b51f60f60e506", func := "redress/redresslaw10.SettleLess", spec := "settleLess", inPlace := ["internal/bytealg.IndexByteString", "internal/bytealg.IndexString"], unfollowed := true, recurses := true, named := ["redress/row.words", "unicode/utf8.first", "unicode/utf8.acceptRanges", "internal/bytealg.MaxLen"], apart := false, laid := [("unicode/utf8.acceptRanges", laid_unicode_utf8_acceptRanges), ("redress/row.words", laid_redress_row_words), ("unicode/utf8.first", laid_unicode_utf8_first)], narrowed := true }
def SettleLessUptoSaid : Prop := settleLessUptoRow.holds Tryd.pinned (OpenSpec.upto settleLessSpec)

end Rows
end Go.Proofs.YtlnpacehjfoffaaDoor
