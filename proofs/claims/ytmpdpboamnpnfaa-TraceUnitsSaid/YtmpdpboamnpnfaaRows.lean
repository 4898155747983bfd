/-
  No cell of these rows narrows 'for every input' (looked for: loops, veiled, ifaces, maps, wideKeys, modest, calm, conditions, laid).
  DERIVED. THE GIVEN ROWS OF THIS SEAT. 8 by the template 'for every input the law returns true; each argument reads behind the call as it read before'; 0 by the template 'total and deterministic' (their statements: YtmpdpboamnpnfaaTotals.lean).
  GIVEN WITH THE SEED: the statements are not yours to turn. If you find one false, say at which input.
  Laid BY PROGRAM, IN A SANDBOX (cutbox-rows.mjs): the forced cells as the released guide's own fill.sh prints them over the translation ded5c5b5f9aa1ba7… (all of the seat's roots in one cut). By AI agents, Wed Nov 11 2026. No macro, syntax, notation, axiom, sorry.
-/
import Derived.Test.YtmpdpboamnpnfaaChecked
import GoSem.Claim
import GoSem.ClaimJoined
import GoSem.ClaimMapViews
import Derived.JoinedTies
import Derived.KernelRfl
namespace Go.Proofs.Ytmpdpboamnpnfaa
/- THE CELL 'sum', in the pinned program and in every row, IS THE sha256 OF THE DUMP (.gsa) THAT YtmpdpboamnpnfaaProg.lean LOADS. Nothing in Lean hashes anything: it is a label: what it is worth is what the hold of that sum in a sandbox is worth. -/
noncomputable def Try.pinned : Pinned := { name := "ytmpdpboamnpnfaa", sum := "ded5c5b5f9aa1ba796cf55b0a8b1f37e01e24d783048546e24374d48a1987bec", checked := Try.checked }
namespace Rows
def none {H : Type} : Left H := { results := [], args := [] }

/-- 'redresslaw02.TraceOrder': WHATEVER THE INPUT: true; the input reads as it did. -/
def traceOrderSpec : ChangeSpec := { name := "traceOrder", fn := fun _ => fun
  | [d1, d2] => { results := [.lit (.bool true)], args := [d1, d2] }
  | _ => none }
def traceOrderRow : OpenClaim := { program := "ytmpdpboamnpnfaa", sum := "ded5c5b5f9aa1ba796cf55b0a8b1f37e01e24d783048546e24374d48a1987bec", func := "redress/redresslaw02.TraceOrder", spec := "traceOrder", unfollowed := true, recurses := true, apart := false }
def TraceOrderSaid : Prop := traceOrderRow.holds Try.pinned (OpenSpec.ofChange traceOrderSpec)

/-- ITS FALSE NEIGHBOUR: 'it returns false'. Refute it at one input. -/
def traceOrderWrong : ChangeSpec := { name := "traceOrder", fn := fun _ => fun
  | [d1, d2] => { results := [.lit (.bool false)], args := [d1, d2] }
  | _ => none }
def TraceOrderWrongFalsely : Prop := traceOrderRow.holds Try.pinned (OpenSpec.ofChange traceOrderWrong)

/-- 'redresslaw02.TraceSets': WHATEVER THE INPUT: true; the input reads as it did. -/
def traceSetsSpec : ChangeSpec := { name := "traceSets", fn := fun _ => fun
  | [d1, d2, d3] => { results := [.lit (.bool true)], args := [d1, d2, d3] }
  | _ => none }
def traceSetsRow : OpenClaim := { program := "ytmpdpboamnpnfaa", sum := "ded5c5b5f9aa1ba796cf55b0a8b1f37e01e24d783048546e24374d48a1987bec", func := "redress/redresslaw02.TraceSets", spec := "traceSets", unfollowed := true, recurses := true, apart := false }
def TraceSetsSaid : Prop := traceSetsRow.holds Try.pinned (OpenSpec.ofChange traceSetsSpec)

/-- ITS FALSE NEIGHBOUR: 'it returns false'. Refute it at one input. -/
def traceSetsWrong : ChangeSpec := { name := "traceSets", fn := fun _ => fun
  | [d1, d2, d3] => { results := [.lit (.bool false)], args := [d1, d2, d3] }
  | _ => none }
def TraceSetsWrongFalsely : Prop := traceSetsRow.holds Try.pinned (OpenSpec.ofChange traceSetsWrong)

/-- 'redresslaw02.TraceThen': WHATEVER THE INPUT: true; the input reads as it did. -/
def traceThenSpec : ChangeSpec := { name := "traceThen", fn := fun _ => fun
  | [d1, d2, d3] => { results := [.lit (.bool true)], args := [d1, d2, d3] }
  | _ => none }
def traceThenRow : OpenClaim := { program := "ytmpdpboamnpnfaa", sum := "ded5c5b5f9aa1ba796cf55b0a8b1f37e01e24d783048546e24374d48a1987bec", func := "redress/redresslaw02.TraceThen", spec := "traceThen", unfollowed := true, recurses := true, apart := false }
def TraceThenSaid : Prop := traceThenRow.holds Try.pinned (OpenSpec.ofChange traceThenSpec)

/-- ITS FALSE NEIGHBOUR: 'it returns false'. Refute it at one input. -/
def traceThenWrong : ChangeSpec := { name := "traceThen", fn := fun _ => fun
  | [d1, d2, d3] => { results := [.lit (.bool false)], args := [d1, d2, d3] }
  | _ => none }
def TraceThenWrongFalsely : Prop := traceThenRow.holds Try.pinned (OpenSpec.ofChange traceThenWrong)

/-- 'redresslaw02.TraceMix': WHATEVER THE INPUT: true; the input reads as it did. -/
def traceMixSpec : ChangeSpec := { name := "traceMix", fn := fun _ => fun
  | [d1, d2] => { results := [.lit (.bool true)], args := [d1, d2] }
  | _ => none }
def traceMixRow : OpenClaim := { program := "ytmpdpboamnpnfaa", sum := "ded5c5b5f9aa1ba796cf55b0a8b1f37e01e24d783048546e24374d48a1987bec", func := "redress/redresslaw02.TraceMix", spec := "traceMix", unfollowed := true, recurses := true, apart := false }
def TraceMixSaid : Prop := traceMixRow.holds Try.pinned (OpenSpec.ofChange traceMixSpec)

/-- ITS FALSE NEIGHBOUR: 'it returns false'. Refute it at one input. -/
def traceMixWrong : ChangeSpec := { name := "traceMix", fn := fun _ => fun
  | [d1, d2] => { results := [.lit (.bool false)], args := [d1, d2] }
  | _ => none }
def TraceMixWrongFalsely : Prop := traceMixRow.holds Try.pinned (OpenSpec.ofChange traceMixWrong)

/-- 'redresslaw02.TracePar': WHATEVER THE INPUT: true; the input reads as it did. -/
def traceParSpec : ChangeSpec := { name := "tracePar", fn := fun _ => fun
  | [d1, d2] => { results := [.lit (.bool true)], args := [d1, d2] }
  | _ => none }
def traceParRow : OpenClaim := { program := "ytmpdpboamnpnfaa", sum := "ded5c5b5f9aa1ba796cf55b0a8b1f37e01e24d783048546e24374d48a1987bec", func := "redress/redresslaw02.TracePar", spec := "tracePar", unfollowed := true, recurses := true, apart := false }
def TraceParSaid : Prop := traceParRow.holds Try.pinned (OpenSpec.ofChange traceParSpec)

/-- ITS FALSE NEIGHBOUR: 'it returns false'. Refute it at one input. -/
def traceParWrong : ChangeSpec := { name := "tracePar", fn := fun _ => fun
  | [d1, d2] => { results := [.lit (.bool false)], args := [d1, d2] }
  | _ => none }
def TraceParWrongFalsely : Prop := traceParRow.holds Try.pinned (OpenSpec.ofChange traceParWrong)

/-- 'redresslaw02.TraceCount': WHATEVER THE INPUT: true; the input reads as it did. -/
def traceCountSpec : ChangeSpec := { name := "traceCount", fn := fun _ => fun
  | [d1, d2] => { results := [.lit (.bool true)], args := [d1, d2] }
  | _ => none }
def traceCountRow : OpenClaim := { program := "ytmpdpboamnpnfaa", sum := "ded5c5b5f9aa1ba796cf55b0a8b1f37e01e24d783048546e24374d48a1987bec", func := "redress/redresslaw02.TraceCount", spec := "traceCount", unfollowed := true, recurses := true, apart := false }
def TraceCountSaid : Prop := traceCountRow.holds Try.pinned (OpenSpec.ofChange traceCountSpec)

/-- ITS FALSE NEIGHBOUR: 'it returns false'. Refute it at one input. -/
def traceCountWrong : ChangeSpec := { name := "traceCount", fn := fun _ => fun
  | [d1, d2] => { results := [.lit (.bool false)], args := [d1, d2] }
  | _ => none }
def TraceCountWrongFalsely : Prop := traceCountRow.holds Try.pinned (OpenSpec.ofChange traceCountWrong)

/-- 'redresslaw02.TraceTexts': WHATEVER THE INPUT: true; the input reads as it did. -/
def traceTextsSpec : ChangeSpec := { name := "traceTexts", fn := fun _ => fun
  | [d] => { results := [.lit (.bool true)], args := [d] }
  | _ => none }
def traceTextsRow : OpenClaim := { program := "ytmpdpboamnpnfaa", sum := "ded5c5b5f9aa1ba796cf55b0a8b1f37e01e24d783048546e24374d48a1987bec", func := "redress/redresslaw02.TraceTexts", spec := "traceTexts", unfollowed := true, recurses := true, apart := false }
def TraceTextsSaid : Prop := traceTextsRow.holds Try.pinned (OpenSpec.ofChange traceTextsSpec)

/-- ITS FALSE NEIGHBOUR: 'it returns false'. Refute it at one input. -/
def traceTextsWrong : ChangeSpec := { name := "traceTexts", fn := fun _ => fun
  | [d] => { results := [.lit (.bool false)], args := [d] }
  | _ => none }
def TraceTextsWrongFalsely : Prop := traceTextsRow.holds Try.pinned (OpenSpec.ofChange traceTextsWrong)

/-- 'redresslaw02.TraceUnits': WHATEVER THE INPUT: true; the input reads as it did. -/
def traceUnitsSpec : ChangeSpec := { name := "traceUnits", fn := fun _ => fun
  | [d1, d2] => { results := [.lit (.bool true)], args := [d1, d2] }
  | _ => none }
def traceUnitsRow : OpenClaim := { program := "ytmpdpboamnpnfaa", sum := "ded5c5b5f9aa1ba796cf55b0a8b1f37e01e24d783048546e24374d48a1987bec", func := "redress/redresslaw02.TraceUnits", spec := "traceUnits", unfollowed := true, recurses := true, apart := false }
def TraceUnitsSaid : Prop := traceUnitsRow.holds Try.pinned (OpenSpec.ofChange traceUnitsSpec)

/-- ITS FALSE NEIGHBOUR: 'it returns false'. Refute it at one input. -/
def traceUnitsWrong : ChangeSpec := { name := "traceUnits", fn := fun _ => fun
  | [d1, d2] => { results := [.lit (.bool false)], args := [d1, d2] }
  | _ => none }
def TraceUnitsWrongFalsely : Prop := traceUnitsRow.holds Try.pinned (OpenSpec.ofChange traceUnitsWrong)

/- THE SECOND FORM. 'bulk': how many values and letters a reading holds, each counted each time it is reached (what is shared counts as often as it is met; a slice's spare places count too). A statement '..UptoSaid' is the law's where the arguments, and the package variables that the reading takes, are together of bulk at most 1048576: NARROWER than '..Said'. Prove '..Said' where nothing that the law and all that it calls make is longer than what came in: it says more and counts as full. Else prove '..UptoSaid'. A law counts once. -/
mutual
def uptoBulk {H : Type} : DataW H → Nat
  | .lit (.string bytes) => bytes.length + 1
  | .lit _ => 1
  | .nil => 1
  | .ptr d => uptoBulk d + 1
  | .slice elems spare => uptoBulkAll elems + uptoBulkAll spare + 1
  | .agg parts => uptoBulkAll parts + 1
  | .iface _ d => uptoBulk d + 1
  | .map entries => uptoBulkEntries entries + 1
  | .held _ => 1
def uptoBulkAll {H : Type} : List (DataW H) → Nat
  | [] => 0
  | d :: r => uptoBulk d + uptoBulkAll r
def uptoBulkEntries {H : Type} : List (Lit × DataW H) → Nat
  | [] => 0
  | x :: r => uptoBulkEntry x + uptoBulkEntries r
def uptoBulkEntry {H : Type} : Lit × DataW H → Nat
  | (.string bytes, d) => bytes.length + uptoBulk d + 1
  | (_, d) => uptoBulk d + 1
 end
def uptoSmall : (H : Type) → List (DataW H) → Bool := fun _ ds => decide (uptoBulkAll ds ≤ 1048576)
def OpenSpec.upto (s : _root_.Go.ChangeSpec) : _root_.Go.OpenSpec := { _root_.Go.OpenSpec.ofChange s with cond := some uptoSmall }

/-- 'redresslaw02.TraceOrder', WHERE WHAT IT READS IS OF BULK AT MOST 1048576: true; the input reads as it did. -/
def traceOrderUptoRow : OpenClaim := { program := "ytmpdpboamnpnfaa", sum := "ded5c5b5f9aa1ba796cf55b0a8b1f37e01e24d783048546e24374d48a1987bec", func := "redress/redresslaw02.TraceOrder", spec := "traceOrder", unfollowed := true, recurses := true, apart := false, narrowed := true }
def TraceOrderUptoSaid : Prop := traceOrderUptoRow.holds Try.pinned (OpenSpec.upto traceOrderSpec)

/-- 'redresslaw02.TraceSets', WHERE WHAT IT READS IS OF BULK AT MOST 1048576: true; the input reads as it did. -/
def traceSetsUptoRow : OpenClaim := { program := "ytmpdpboamnpnfaa", sum := "ded5c5b5f9aa1ba796cf55b0a8b1f37e01e24d783048546e24374d48a1987bec", func := "redress/redresslaw02.TraceSets", spec := "traceSets", unfollowed := true, recurses := true, apart := false, narrowed := true }
def TraceSetsUptoSaid : Prop := traceSetsUptoRow.holds Try.pinned (OpenSpec.upto traceSetsSpec)

/-- 'redresslaw02.TraceThen', WHERE WHAT IT READS IS OF BULK AT MOST 1048576: true; the input reads as it did. -/
def traceThenUptoRow : OpenClaim := { program := "ytmpdpboamnpnfaa", sum := "ded5c5b5f9aa1ba796cf55b0a8b1f37e01e24d783048546e24374d48a1987bec", func := "redress/redresslaw02.TraceThen", spec := "traceThen", unfollowed := true, recurses := true, apart := false, narrowed := true }
def TraceThenUptoSaid : Prop := traceThenUptoRow.holds Try.pinned (OpenSpec.upto traceThenSpec)

/-- 'redresslaw02.TraceMix', WHERE WHAT IT READS IS OF BULK AT MOST 1048576: true; the input reads as it did. -/
def traceMixUptoRow : OpenClaim := { program := "ytmpdpboamnpnfaa", sum := "ded5c5b5f9aa1ba796cf55b0a8b1f37e01e24d783048546e24374d48a1987bec", func := "redress/redresslaw02.TraceMix", spec := "traceMix", unfollowed := true, recurses := true, apart := false, narrowed := true }
def TraceMixUptoSaid : Prop := traceMixUptoRow.holds Try.pinned (OpenSpec.upto traceMixSpec)

/-- 'redresslaw02.TracePar', WHERE WHAT IT READS IS OF BULK AT MOST 1048576: true; the input reads as it did. -/
def traceParUptoRow : OpenClaim := { program := "ytmpdpboamnpnfaa", sum := "ded5c5b5f9aa1ba796cf55b0a8b1f37e01e24d783048546e24374d48a1987bec", func := "redress/redresslaw02.TracePar", spec := "tracePar", unfollowed := true, recurses := true, apart := false, narrowed := true }
def TraceParUptoSaid : Prop := traceParUptoRow.holds Try.pinned (OpenSpec.upto traceParSpec)

/-- 'redresslaw02.TraceCount', WHERE WHAT IT READS IS OF BULK AT MOST 1048576: true; the input reads as it did. -/
def traceCountUptoRow : OpenClaim := { program := "ytmpdpboamnpnfaa", sum := "ded5c5b5f9aa1ba796cf55b0a8b1f37e01e24d783048546e24374d48a1987bec", func := "redress/redresslaw02.TraceCount", spec := "traceCount", unfollowed := true, recurses := true, apart := false, narrowed := true }
def TraceCountUptoSaid : Prop := traceCountUptoRow.holds Try.pinned (OpenSpec.upto traceCountSpec)

/-- 'redresslaw02.TraceTexts', WHERE WHAT IT READS IS OF BULK AT MOST 1048576: true; the input reads as it did. -/
def traceTextsUptoRow : OpenClaim := { program := "ytmpdpboamnpnfaa", sum := "ded5c5b5f9aa1ba796cf55b0a8b1f37e01e24d783048546e24374d48a1987bec", func := "redress/redresslaw02.TraceTexts", spec := "traceTexts", unfollowed := true, recurses := true, apart := false, narrowed := true }
def TraceTextsUptoSaid : Prop := traceTextsUptoRow.holds Try.pinned (OpenSpec.upto traceTextsSpec)

/-- 'redresslaw02.TraceUnits', WHERE WHAT IT READS IS OF BULK AT MOST 1048576: true; the input reads as it did. -/
def traceUnitsUptoRow : OpenClaim := { program := "ytmpdpboamnpnfaa", sum := "ded5c5b5f9aa1ba796cf55b0a8b1f37e01e24d783048546e24374d48a1987bec", func := "redress/redresslaw02.TraceUnits", spec := "traceUnits", unfollowed := true, recurses := true, apart := false, narrowed := true }
def TraceUnitsUptoSaid : Prop := traceUnitsUptoRow.holds Try.pinned (OpenSpec.upto traceUnitsSpec)

end Rows
end Go.Proofs.Ytmpdpboamnpnfaa
